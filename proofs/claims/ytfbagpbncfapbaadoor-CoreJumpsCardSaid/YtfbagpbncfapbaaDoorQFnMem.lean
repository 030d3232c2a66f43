/- Contracts that the proofs use. -/
import Derived.Test.YtfbagpbncfapbaaDoorQFnMk
import Derived.Test.YtfbagpbncfapbaaDoorQMemM
set_option linter.unusedVariables false
set_option linter.unusedSimpArgs false
namespace Go.Proofs.YtfbagpbncfapbaaDoor
open Go.RowKit Go.Sy Go.Fac
section
variable {ea : Int → Addr} {has : Int → Prop} {gl : List (Nat × SVal)}
abbrev enV (w : Int) : SVal := .agg [.int .i64 (.sym (enF w) 0 1023), .bool (.sym (enT w)), .bool (.sym (enW w)), .bool (.sym (enU w))]
theorem ro_words {C : Ctx} {W : World} {R : Nat → Prop} {ρ : Nat → Option Value} : ∀ {l : List Int} {vs : List Value}, DenL C W R ρ (l.flatMap (RT.enc .u32)) vs → wordsIn l
  | [], _, _ => fun x hx => by cases hx
  | y :: l, vs, h => by
    rw [List.flatMap_cons] at h
    obtain ⟨a, b, rfl, ha, hb⟩ := h.split
    intro x hx
    rcases List.mem_cons.1 hx with rfl | hx
    · have ha : DenL C W R ρ [.int .u32 (.full x)] a := ha
      obtain ⟨v, us, rfl, _, h2, _⟩ := ha.inv_one rfl
      have := h2.int_inv.2
      have h1 := this.lo; have h2 := this.hi
      simp only [SI.val, kmin, kmax] at h1 h2
      omega
    · exact ro_words hb x hx
theorem ro_fact {C : Ctx} {W : World} {R : Nat → Prop} {ρ : Nat → Option Value} {l : List Int} {v : Value} (h : Den C W R ρ (.ro .u32 l) v) : l.length ≤ maxLen ∧ wordsIn l := by
  cases h with
  | ro _ _ A cap vs h1 h2 h3 h4 h5 => exact ⟨by omega, ro_words h3⟩
theorem mem_fact {C : Ctx} {W : World} {R : Nat → Prop} {ρ : Nat → Option Value} {l : List Int} {more : List SVal} {vs : List Value} (h : DenA C W R ρ (.rop [.ro .u32 l] :: more) vs) : l.length ≤ maxLen ∧ wordsIn l := by
  cases h with
  | cons _ v _ us h1 h2 =>
    cases h1 with
    | rop _ vs b off h1 h2 h3 =>
      obtain ⟨v, us, rfl, _, h2, _⟩ := h2.inv_one rfl
      exact ro_fact h2
def kmFrames : List SVal → Nat → Acc ORes := fun a n => match a with | [.rop [.ro .u32 l]] => .ret ({ v := .int .i64 (.sym (frN l) 0 576460752303423487) }) | _ => .fail "mFrames"
theorem argmFrames (l : List Int) : (all (subL tAtN none' [] deep [.rop [.ro .u32 l]] [.rop [.ro .u32 l]])) = (
  l = l) := by kernel_rfl
theorem runmFrames (gl : List (Nat × SVal)) (l : List Int) : (Tr.sat (plainQ (.int .i64 (.sym (frN l) 0 576460752303423487))) (run (env gl []) [] (bodyOf Tryd.f59) (start [.rop [.ro .u32 l]] 9) (ends (env gl []) Tryd.f59.results.toList))) = (
  (↑(List.length l) : Int) / Int.ofNat (nat_lit 15 + (1 : Nat)) = frN l ∧ (0 : Int) ≤ frN l ∧ frN l ≤ (576460752303423487 : Int)) := by kernel_rfl
set_option maxHeartbeats 4000000 in
theorem cmFrames : Con ea has gl 59 kmFrames := by
  refine plain_mk Tryd.func59 9 (con := []) trivial (fun hA hr hv => ?_) (by kernel_rfl) (by kernel_rfl) Tryd.ntmps59
  unfold kmFrames at hr; split at hr
  · rename_i l
    have := ret_ok hr; subst this
    refine ⟨_, [], rfl, rfl, (argmFrames l).mpr (by simp), rfl, (fun W R ρ0 own0 hown => noSums (by kernel_rfl)), (runmFrames gl l).mpr ?_⟩
    clear hr
    obtain ⟨h1, _⟩ := mem_fact hA
    unfold maxLen at h1
    unfold frN
    exact ⟨rfl, by omega, by omega⟩
  · cases hr
def kmRead : List SVal → Nat → Acc ORes := fun a n => match a with | [.rop [.ro .u32 l], .int .i64 a] => .ret ({ v := .tuple [.int .u32 (.full (rd l a.val)), .bool (.sym (inM l a.val))] }) | _ => .fail "mRead"
theorem argmRead (l : List Int) (a : SI) : (all (subL tAtN none' [] deep [.rop [.ro .u32 l], .int .i64 a] [.rop [.ro .u32 l], .int .i64 (.full a.val)])) = (
  l = l ∧ SI.val a = SI.val a) := by kernel_rfl
theorem runmRead (gl : List (Nat × SVal)) (l : List Int) (a : SI) : (Tr.sat (plainQ (.tuple [.int .u32 (.full (rd l a.val)), .bool (.sym (inM l a.val))])) (run (env gl []) [] (bodyOf Tryd.f51) (start [.rop [.ro .u32 l], .int .i64 (.full a.val)] 24) (ends (env gl []) Tryd.f51.results.toList))) = (
  ((decide (SI.val a < (0 : Int)) || decide ((↑(List.length l) : Int) ≤ SI.val a)) = true → (0 : Int) = rd l (SI.val a) ∧ false = inM l (SI.val a)) ∧ ((decide (SI.val a < (0 : Int)) || decide ((↑(List.length l) : Int) ≤ SI.val a)) = false → ((0 : Int) ≤ SI.val a ∧ SI.val a < (↑(List.length l) : Int)) ∧ ((0 : Int) ≤ SI.val a ∧ SI.val a < (↑(List.length l) : Int) → List.getD l (Int.toNat (SI.val a)) (RT.dflt RT.u32) = rd l (SI.val a) ∧ true = inM l (SI.val a)))) := by kernel_rfl
set_option maxHeartbeats 4000000 in
theorem cmRead : Con ea has gl 51 kmRead := by
  refine plain_mk Tryd.func51 24 (con := []) trivial (fun hA hr hv => ?_) (by kernel_rfl) (by kernel_rfl) Tryd.ntmps51
  unfold kmRead at hr; split at hr
  · rename_i l a
    have := ret_ok hr; subst this
    refine ⟨_, [], rfl, rfl, (argmRead l a).mpr (by simp), rfl, (fun W R ρ0 own0 hown => noSums (by kernel_rfl)), (runmRead gl l a).mpr ?_⟩
    clear hr
    clear hA hv
    generalize a.val = a
    refine ⟨fun h => ?_, fun h => ?_⟩
    · have : inM l a = false := by
        cases hi : inM l a with
        | false => rfl
        | true => rw [inM_iff] at hi; simp at h; omega
      rw [rd, this]; exact ⟨rfl, rfl⟩
    · simp at h
      have : inM l a = true := inM_iff.2 (by omega)
      rw [rd, if_pos this, this]
      exact ⟨by omega, fun _ => ⟨rfl, rfl⟩⟩
  · cases hr
def krFrames : List SVal → Nat → Acc ORes := fun a n => match a with | [.rop [.ro .u32 l]] => .ret ({ v := .int .i64 (.sym (frN l) 0 576460752303423487) }) | _ => .fail "rFrames"
theorem argrFrames (l : List Int) : (all (subL tAtN none' [] deep [.rop [.ro .u32 l]] [.rop [.ro .u32 l]])) = (
  l = l) := by kernel_rfl
theorem runrFrames (gl : List (Nat × SVal)) (l : List Int) : (Tr.sat (plainQ (.int .i64 (.sym (frN l) 0 576460752303423487))) (run (env gl []) [] (bodyOf Tryd.f45) (start [.rop [.ro .u32 l]] 9) (ends (env gl []) Tryd.f45.results.toList))) = (
  (↑(List.length l) : Int) / Int.ofNat (nat_lit 15 + (1 : Nat)) = frN l ∧ (0 : Int) ≤ frN l ∧ frN l ≤ (576460752303423487 : Int)) := by kernel_rfl
set_option maxHeartbeats 4000000 in
theorem crFrames : Con ea has gl 45 krFrames := by
  refine plain_mk Tryd.func45 9 (con := []) trivial (fun hA hr hv => ?_) (by kernel_rfl) (by kernel_rfl) Tryd.ntmps45
  unfold krFrames at hr; split at hr
  · rename_i l
    have := ret_ok hr; subst this
    refine ⟨_, [], rfl, rfl, (argrFrames l).mpr (by simp), rfl, (fun W R ρ0 own0 hown => noSums (by kernel_rfl)), (runrFrames gl l).mpr ?_⟩
    clear hr
    obtain ⟨h1, _⟩ := mem_fact hA
    unfold maxLen at h1
    unfold frN
    exact ⟨rfl, by omega, by omega⟩
  · cases hr
def krRead : List SVal → Nat → Acc ORes := fun a n => match a with | [.rop [.ro .u32 l], .int .i64 a] => .ret ({ v := .tuple [.int .u32 (.full (rd l a.val)), .bool (.sym (inM l a.val))] }) | _ => .fail "rRead"
theorem argrRead (l : List Int) (a : SI) : (all (subL tAtN none' [] deep [.rop [.ro .u32 l], .int .i64 a] [.rop [.ro .u32 l], .int .i64 (.full a.val)])) = (
  l = l ∧ SI.val a = SI.val a) := by kernel_rfl
theorem runrRead (gl : List (Nat × SVal)) (l : List Int) (a : SI) : (Tr.sat (plainQ (.tuple [.int .u32 (.full (rd l a.val)), .bool (.sym (inM l a.val))])) (run (env gl []) [] (bodyOf Tryd.f42) (start [.rop [.ro .u32 l], .int .i64 (.full a.val)] 24) (ends (env gl []) Tryd.f42.results.toList))) = (
  ((decide (SI.val a < (0 : Int)) || decide ((↑(List.length l) : Int) ≤ SI.val a)) = true → (0 : Int) = rd l (SI.val a) ∧ false = inM l (SI.val a)) ∧ ((decide (SI.val a < (0 : Int)) || decide ((↑(List.length l) : Int) ≤ SI.val a)) = false → ((0 : Int) ≤ SI.val a ∧ SI.val a < (↑(List.length l) : Int)) ∧ ((0 : Int) ≤ SI.val a ∧ SI.val a < (↑(List.length l) : Int) → List.getD l (Int.toNat (SI.val a)) (RT.dflt RT.u32) = rd l (SI.val a) ∧ true = inM l (SI.val a)))) := by kernel_rfl
set_option maxHeartbeats 4000000 in
theorem crRead : Con ea has gl 42 krRead := by
  refine plain_mk Tryd.func42 24 (con := []) trivial (fun hA hr hv => ?_) (by kernel_rfl) (by kernel_rfl) Tryd.ntmps42
  unfold krRead at hr; split at hr
  · rename_i l a
    have := ret_ok hr; subst this
    refine ⟨_, [], rfl, rfl, (argrRead l a).mpr (by simp), rfl, (fun W R ρ0 own0 hown => noSums (by kernel_rfl)), (runrRead gl l a).mpr ?_⟩
    clear hr
    clear hA hv
    generalize a.val = a
    refine ⟨fun h => ?_, fun h => ?_⟩
    · have : inM l a = false := by
        cases hi : inM l a with
        | false => rfl
        | true => rw [inM_iff] at hi; simp at h; omega
      rw [rd, this]; exact ⟨rfl, rfl⟩
    · simp at h
      have : inM l a = true := inM_iff.2 (by omega)
      rw [rd, if_pos this, this]
      exact ⟨by omega, fun _ => ⟨rfl, rfl⟩⟩
  · cases hr
def jBits (f : Int) (t w u : Bool) : LSum := cutL { fr := [(4, .int .u32 (.full (f * 256))), (35, .own 0), (36, .int .i64 (.lit 3)), (37, .int .i64 (.lit 0))], hp := [(0, some (.recs .bool [t, w, u]))], next := 1, sz := 49 }
def kmBits : List SVal → Nat → Acc ORes := fun a n => match a with | [.agg [.int .i64 f, .bool t, .bool w, .bool u]] => .ret ({ v := .tuple [.int .u32 (.full (bitsW f.val t.val w.val u.val)), .bool (.sym (bitsOk f.val t.val w.val u.val))] }) | _ => .fail "mBits"
theorem argmBits (f : SI) (t w u : SB) : (all (subL tAtN none' [] deep [.agg [.int .i64 f, .bool t, .bool w, .bool u]] [.agg [.int .i64 (.full f.val), .bool (.sym t.val), .bool (.sym w.val), .bool (.sym u.val)]])) = (
  SI.val f = SI.val f ∧ SB.val t = SB.val t ∧ SB.val w = SB.val w ∧ SB.val u = SB.val u) := by kernel_rfl
theorem runmBits (gl : List (Nat × SVal)) (f : SI) (t w u : SB) : (Tr.sat (plainQ (.tuple [.int .u32 (.full (bitsW f.val t.val w.val u.val)), .bool (.sym (bitsOk f.val t.val w.val u.val))])) (run (env gl []) [(1000004, jBits f.val t.val w.val u.val)] (bodyOf Tryd.f69) (start [.agg [.int .i64 (.full f.val), .bool (.sym t.val), .bool (.sym w.val), .bool (.sym u.val)]] 49) (ends (env gl []) Tryd.f69.results.toList))) = (
  ((decide (SI.val f < (0 : Int)) || decide ((1024 : Int) ≤ SI.val f) || !SB.val t && !(decide (SI.val f = (0 : Int)) && (SB.val t == false && (SB.val w == false && (SB.val u == false && true))))) = true → (0 : Int) = bitsW (SI.val f) (SB.val t) (SB.val w) (SB.val u) ∧ false = bitsOk (SI.val f) (SB.val t) (SB.val w) (SB.val u)) ∧ ((decide (SI.val f < (0 : Int)) || decide ((1024 : Int) ≤ SI.val f) || !SB.val t && !(decide (SI.val f = (0 : Int)) && (SB.val t == false && (SB.val w == false && (SB.val u == false && true))))) = false → (IntKind.wrap IntKind.u32 (IntKind.wrap IntKind.u32 (SI.val f) * (256 : Int)) = SI.val f * (256 : Int) ∧ (↑(List.length [SB.val t, SB.val w, SB.val u]) : Int) = (3 : Int) ∧ (0 : Int) = (0 : Int) ∧ [SB.val t, SB.val w, SB.val u] = [SB.val t, SB.val w, SB.val u]) ∧ (IntKind.wrap IntKind.u32 (IntKind.wrap IntKind.u32 (SI.val f) * (256 : Int)) = SI.val f * (256 : Int) ∧ (↑(List.length [SB.val t, SB.val w, SB.val u]) : Int) = (3 : Int) ∧ (0 : Int) = (0 : Int) ∧ [SB.val t, SB.val w, SB.val u] = [SB.val t, SB.val w, SB.val u] → ((0 : Int) ≤ (0 : Int) ∧ (0 : Int) < (↑(List.length [SB.val t, SB.val w, SB.val u]) : Int)) ∧ ((0 : Int) ≤ (0 : Int) ∧ (0 : Int) < (↑(List.length [SB.val t, SB.val w, SB.val u]) : Int) → (List.getD [SB.val t, SB.val w, SB.val u] (Int.toNat (0 : Int)) (RT.dflt RT.bool) = true → ((0 : Int) ≤ (1 : Int) ∧ (1 : Int) < (↑(List.length [SB.val t, SB.val w, SB.val u]) : Int)) ∧ ((0 : Int) ≤ (1 : Int) ∧ (1 : Int) < (↑(List.length [SB.val t, SB.val w, SB.val u]) : Int) → (List.getD [SB.val t, SB.val w, SB.val u] (Int.toNat (1 : Int)) (RT.dflt RT.bool) = true → ((0 : Int) ≤ (2 : Int) ∧ (2 : Int) < (↑(List.length [SB.val t, SB.val w, SB.val u]) : Int)) ∧ ((0 : Int) ≤ (2 : Int) ∧ (2 : Int) < (↑(List.length [SB.val t, SB.val w, SB.val u]) : Int) → (List.getD [SB.val t, SB.val w, SB.val u] (Int.toNat (2 : Int)) (RT.dflt RT.bool) = true → bits BinOp.or IntKind.u32 (bits BinOp.or IntKind.u32 (bits BinOp.or IntKind.u32 (SI.val f * (256 : Int)) ((1 : Int) * (1 : Int))) ((1 : Int) * (2 : Int))) ((1 : Int) * (4 : Int)) = bitsW (SI.val f) (SB.val t) (SB.val w) (SB.val u) ∧ true = bitsOk (SI.val f) (SB.val t) (SB.val w) (SB.val u)) ∧ (List.getD [SB.val t, SB.val w, SB.val u] (Int.toNat (2 : Int)) (RT.dflt RT.bool) = false → bits BinOp.or IntKind.u32 (bits BinOp.or IntKind.u32 (SI.val f * (256 : Int)) ((1 : Int) * (1 : Int))) ((1 : Int) * (2 : Int)) = bitsW (SI.val f) (SB.val t) (SB.val w) (SB.val u) ∧ true = bitsOk (SI.val f) (SB.val t) (SB.val w) (SB.val u)))) ∧ (List.getD [SB.val t, SB.val w, SB.val u] (Int.toNat (1 : Int)) (RT.dflt RT.bool) = false → ((0 : Int) ≤ (2 : Int) ∧ (2 : Int) < (↑(List.length [SB.val t, SB.val w, SB.val u]) : Int)) ∧ ((0 : Int) ≤ (2 : Int) ∧ (2 : Int) < (↑(List.length [SB.val t, SB.val w, SB.val u]) : Int) → (List.getD [SB.val t, SB.val w, SB.val u] (Int.toNat (2 : Int)) (RT.dflt RT.bool) = true → bits BinOp.or IntKind.u32 (bits BinOp.or IntKind.u32 (SI.val f * (256 : Int)) ((1 : Int) * (1 : Int))) ((1 : Int) * (4 : Int)) = bitsW (SI.val f) (SB.val t) (SB.val w) (SB.val u) ∧ true = bitsOk (SI.val f) (SB.val t) (SB.val w) (SB.val u)) ∧ (List.getD [SB.val t, SB.val w, SB.val u] (Int.toNat (2 : Int)) (RT.dflt RT.bool) = false → bits BinOp.or IntKind.u32 (SI.val f * (256 : Int)) ((1 : Int) * (1 : Int)) = bitsW (SI.val f) (SB.val t) (SB.val w) (SB.val u) ∧ true = bitsOk (SI.val f) (SB.val t) (SB.val w) (SB.val u)))))) ∧ (List.getD [SB.val t, SB.val w, SB.val u] (Int.toNat (0 : Int)) (RT.dflt RT.bool) = false → ((0 : Int) ≤ (1 : Int) ∧ (1 : Int) < (↑(List.length [SB.val t, SB.val w, SB.val u]) : Int)) ∧ ((0 : Int) ≤ (1 : Int) ∧ (1 : Int) < (↑(List.length [SB.val t, SB.val w, SB.val u]) : Int) → (List.getD [SB.val t, SB.val w, SB.val u] (Int.toNat (1 : Int)) (RT.dflt RT.bool) = true → ((0 : Int) ≤ (2 : Int) ∧ (2 : Int) < (↑(List.length [SB.val t, SB.val w, SB.val u]) : Int)) ∧ ((0 : Int) ≤ (2 : Int) ∧ (2 : Int) < (↑(List.length [SB.val t, SB.val w, SB.val u]) : Int) → (List.getD [SB.val t, SB.val w, SB.val u] (Int.toNat (2 : Int)) (RT.dflt RT.bool) = true → bits BinOp.or IntKind.u32 (bits BinOp.or IntKind.u32 (SI.val f * (256 : Int)) ((1 : Int) * (2 : Int))) ((1 : Int) * (4 : Int)) = bitsW (SI.val f) (SB.val t) (SB.val w) (SB.val u) ∧ true = bitsOk (SI.val f) (SB.val t) (SB.val w) (SB.val u)) ∧ (List.getD [SB.val t, SB.val w, SB.val u] (Int.toNat (2 : Int)) (RT.dflt RT.bool) = false → bits BinOp.or IntKind.u32 (SI.val f * (256 : Int)) ((1 : Int) * (2 : Int)) = bitsW (SI.val f) (SB.val t) (SB.val w) (SB.val u) ∧ true = bitsOk (SI.val f) (SB.val t) (SB.val w) (SB.val u)))) ∧ (List.getD [SB.val t, SB.val w, SB.val u] (Int.toNat (1 : Int)) (RT.dflt RT.bool) = false → ((0 : Int) ≤ (2 : Int) ∧ (2 : Int) < (↑(List.length [SB.val t, SB.val w, SB.val u]) : Int)) ∧ ((0 : Int) ≤ (2 : Int) ∧ (2 : Int) < (↑(List.length [SB.val t, SB.val w, SB.val u]) : Int) → (List.getD [SB.val t, SB.val w, SB.val u] (Int.toNat (2 : Int)) (RT.dflt RT.bool) = true → bits BinOp.or IntKind.u32 (SI.val f * (256 : Int)) ((1 : Int) * (4 : Int)) = bitsW (SI.val f) (SB.val t) (SB.val w) (SB.val u) ∧ true = bitsOk (SI.val f) (SB.val t) (SB.val w) (SB.val u)) ∧ (List.getD [SB.val t, SB.val w, SB.val u] (Int.toNat (2 : Int)) (RT.dflt RT.bool) = false → SI.val f * (256 : Int) = bitsW (SI.val f) (SB.val t) (SB.val w) (SB.val u) ∧ true = bitsOk (SI.val f) (SB.val t) (SB.val w) (SB.val u)))))))))) := by kernel_rfl
set_option maxHeartbeats 4000000 in
theorem cmBits : Con ea has gl 69 kmBits := by
  refine plain_mk Tryd.func69 49 (con := []) trivial (fun hA hr hv => ?_) (by kernel_rfl) (by kernel_rfl) Tryd.ntmps69
  unfold kmBits at hr; split at hr
  · rename_i f t w u
    have := ret_ok hr; subst this
    refine ⟨_, [(1000004, jBits f.val t.val w.val u.val)], rfl, rfl, (argmBits f t w u).mpr (by simp), rfl, (fun W R ρ0 own0 hown => noSums (by kernel_rfl)), (runmBits gl f t w u).mpr ?_⟩
    clear hr
    clear hA hv
    generalize f.val = f at *
    generalize t.val = t
    generalize w.val = w
    generalize u.val = u
    refine ⟨fun h => ?_, fun h => ?_⟩
    · have : bitsOk f t w u = false := by
        unfold bitsOk
        cases t <;> cases w <;> cases u <;> simp at h ⊢ <;> omega
      rw [bitsW, this]; exact ⟨rfl, rfl⟩
    · have hk : bitsOk f t w u = true := by
        unfold bitsOk
        cases t <;> cases w <;> cases u <;> simp at h ⊢ <;> omega
      have hr : 0 ≤ f ∧ f < 1024 := by
        unfold bitsOk at hk
        simp only [Bool.and_eq_true, decide_eq_true_eq] at hk
        exact hk.1
      have e1 : IntKind.u32.wrap (IntKind.u32.wrap f * 256) = f * 256 := by simp only [IntKind.wrap_u32]; omega
      obtain ⟨o1, o2, o3, o4, o5, o6, o7⟩ := or_lows (f := f) ⟨hr.1, by omega⟩
      have m1 : (1 : Int) * 1 = 1 := rfl
      have m2 : (1 : Int) * 2 = 2 := rfl
      have m4 : (1 : Int) * 4 = 4 := rfl
      rw [e1, bitsW, if_pos hk, hk]
      simp only [m1, m2, m4, o1, o2, o3, o4, o5, o6, o7]
      cases t <;> cases w <;> cases u <;> simp [b2i, RT.dflt] <;> omega
  · cases hr
def krBits : List SVal → Nat → Acc ORes := fun a n => match a with | [.agg [.int .i64 f, .bool t, .bool w, .bool u]] => .ret ({ v := .tuple [.int .u32 (.full (bitsW f.val t.val w.val u.val)), .bool (.sym (bitsOk f.val t.val w.val u.val))] }) | _ => .fail "rBits"
theorem argrBits (f : SI) (t w u : SB) : (all (subL tAtN none' [] deep [.agg [.int .i64 f, .bool t, .bool w, .bool u]] [.agg [.int .i64 (.full f.val), .bool (.sym t.val), .bool (.sym w.val), .bool (.sym u.val)]])) = (
  SI.val f = SI.val f ∧ SB.val t = SB.val t ∧ SB.val w = SB.val w ∧ SB.val u = SB.val u) := by kernel_rfl
theorem runrBits (gl : List (Nat × SVal)) (f : SI) (t w u : SB) : (Tr.sat (plainQ (.tuple [.int .u32 (.full (bitsW f.val t.val w.val u.val)), .bool (.sym (bitsOk f.val t.val w.val u.val))])) (run (env gl []) [] (bodyOf Tryd.f33) (start [.agg [.int .i64 (.full f.val), .bool (.sym t.val), .bool (.sym w.val), .bool (.sym u.val)]] 43) (ends (env gl []) Tryd.f33.results.toList))) = (
  ((decide (SI.val f < (0 : Int)) || decide ((1024 : Int) ≤ SI.val f)) = true → (0 : Int) = bitsW (SI.val f) (SB.val t) (SB.val w) (SB.val u) ∧ false = bitsOk (SI.val f) (SB.val t) (SB.val w) (SB.val u)) ∧ ((decide (SI.val f < (0 : Int)) || decide ((1024 : Int) ≤ SI.val f)) = false → ((!SB.val t) = true → (0 : Int) = bitsW (SI.val f) (SB.val t) (SB.val w) (SB.val u) ∧ (decide (SI.val f = (0 : Int)) && !SB.val w && !SB.val u) = bitsOk (SI.val f) (SB.val t) (SB.val w) (SB.val u)) ∧ ((!SB.val t) = false → (SB.val w = true → (SB.val u = true → bits BinOp.or IntKind.u32 (bits BinOp.or IntKind.u32 (bits BinOp.or IntKind.u32 (IntKind.wrap IntKind.u32 (IntKind.wrap IntKind.u32 (SI.val f) * (256 : Int))) (1 : Int)) (2 : Int)) (4 : Int) = bitsW (SI.val f) (SB.val t) (SB.val w) (SB.val u) ∧ true = bitsOk (SI.val f) (SB.val t) (SB.val w) (SB.val u)) ∧ (SB.val u = false → bits BinOp.or IntKind.u32 (bits BinOp.or IntKind.u32 (IntKind.wrap IntKind.u32 (IntKind.wrap IntKind.u32 (SI.val f) * (256 : Int))) (1 : Int)) (2 : Int) = bitsW (SI.val f) (SB.val t) (SB.val w) (SB.val u) ∧ true = bitsOk (SI.val f) (SB.val t) (SB.val w) (SB.val u))) ∧ (SB.val w = false → (SB.val u = true → bits BinOp.or IntKind.u32 (bits BinOp.or IntKind.u32 (IntKind.wrap IntKind.u32 (IntKind.wrap IntKind.u32 (SI.val f) * (256 : Int))) (1 : Int)) (4 : Int) = bitsW (SI.val f) (SB.val t) (SB.val w) (SB.val u) ∧ true = bitsOk (SI.val f) (SB.val t) (SB.val w) (SB.val u)) ∧ (SB.val u = false → bits BinOp.or IntKind.u32 (IntKind.wrap IntKind.u32 (IntKind.wrap IntKind.u32 (SI.val f) * (256 : Int))) (1 : Int) = bitsW (SI.val f) (SB.val t) (SB.val w) (SB.val u) ∧ true = bitsOk (SI.val f) (SB.val t) (SB.val w) (SB.val u)))))) := by kernel_rfl
set_option maxHeartbeats 4000000 in
theorem crBits : Con ea has gl 33 krBits := by
  refine plain_mk Tryd.func33 43 (con := []) trivial (fun hA hr hv => ?_) (by kernel_rfl) (by kernel_rfl) Tryd.ntmps33
  unfold krBits at hr; split at hr
  · rename_i f t w u
    have := ret_ok hr; subst this
    refine ⟨_, [], rfl, rfl, (argrBits f t w u).mpr (by simp), rfl, (fun W R ρ0 own0 hown => noSums (by kernel_rfl)), (runrBits gl f t w u).mpr ?_⟩
    clear hr
    clear hA hv
    generalize f.val = f at *
    generalize t.val = t
    generalize w.val = w
    generalize u.val = u
    have hz : ∀ w, bitsOk f t w u = false → bitsW f t w u = 0 := fun w h => by rw [bitsW, if_neg (by rw [h]; simp)]
    refine ⟨fun h => ?_, fun h => ?_⟩
    · have : bitsOk f t w u = false := by
        unfold bitsOk
        simp at h ⊢; omega
      rw [hz _ this, this]; exact ⟨rfl, rfl⟩
    · simp at h
      have e1 : IntKind.u32.wrap (IntKind.u32.wrap f * 256) = f * 256 := by simp only [IntKind.wrap_u32]; omega
      obtain ⟨o1, o2, o3, o4, o5, o6, o7⟩ := or_lows (f := f) ⟨by omega, by omega⟩
      have h1 : 0 ≤ f := by omega
      have h2 : f < 1024 := by omega
      simp only [e1, o1, o2, o3, o4, o5, o6, o7]
      cases t <;> cases w <;> cases u <;> simp [bitsW, bitsOk, b2i, h1, h2] <;> omega
  · cases hr
def kmOf : List SVal → Nat → Acc ORes := fun a n => match a with | [.int .u32 w] => .ret ({ v := .tuple [enV w.val, .bool (.sym (enOk w.val))] }) | _ => .fail "mOf"
theorem argmOf (w : SI) : (all (subL tAtN none' [] deep [.int .u32 w] [.int .u32 (.full w.val)])) = (
  SI.val w = SI.val w) := by kernel_rfl
theorem runmOf (gl : List (Nat × SVal)) (w : SI) : (Tr.sat (plainQ (.tuple [enV w.val, .bool (.sym (enOk w.val))])) (run (env gl [(69, kmBits)]) [] (bodyOf Tryd.f62) (start [.int .u32 (.full w.val)] 34) (ends (env gl [(69, kmBits)]) Tryd.f62.results.toList))) = (
  ((!bitsOk (SI.val w / Int.ofNat (nat_lit 255 + (1 : Nat))) (decide ((0 : Int) < SI.val w % (2 : Int))) (decide ((0 : Int) < bits BinOp.and IntKind.u32 (SI.val w) (2 : Int))) (decide ((0 : Int) < bits BinOp.and IntKind.u32 (SI.val w) (4 : Int))) || !decide (bitsW (SI.val w / Int.ofNat (nat_lit 255 + (1 : Nat))) (decide ((0 : Int) < SI.val w % (2 : Int))) (decide ((0 : Int) < bits BinOp.and IntKind.u32 (SI.val w) (2 : Int))) (decide ((0 : Int) < bits BinOp.and IntKind.u32 (SI.val w) (4 : Int))) = SI.val w)) = true → (0 : Int) = enF (SI.val w) ∧ false = enT (SI.val w) ∧ false = enW (SI.val w) ∧ false = enU (SI.val w) ∧ false = enOk (SI.val w)) ∧ ((!bitsOk (SI.val w / Int.ofNat (nat_lit 255 + (1 : Nat))) (decide ((0 : Int) < SI.val w % (2 : Int))) (decide ((0 : Int) < bits BinOp.and IntKind.u32 (SI.val w) (2 : Int))) (decide ((0 : Int) < bits BinOp.and IntKind.u32 (SI.val w) (4 : Int))) || !decide (bitsW (SI.val w / Int.ofNat (nat_lit 255 + (1 : Nat))) (decide ((0 : Int) < SI.val w % (2 : Int))) (decide ((0 : Int) < bits BinOp.and IntKind.u32 (SI.val w) (2 : Int))) (decide ((0 : Int) < bits BinOp.and IntKind.u32 (SI.val w) (4 : Int))) = SI.val w)) = false → SI.val w / Int.ofNat (nat_lit 255 + (1 : Nat)) = enF (SI.val w) ∧ ((0 : Int) ≤ enF (SI.val w) ∧ enF (SI.val w) ≤ (1023 : Int)) ∧ decide ((0 : Int) < SI.val w % (2 : Int)) = enT (SI.val w) ∧ decide ((0 : Int) < bits BinOp.and IntKind.u32 (SI.val w) (2 : Int)) = enW (SI.val w) ∧ decide ((0 : Int) < bits BinOp.and IntKind.u32 (SI.val w) (4 : Int)) = enU (SI.val w) ∧ true = enOk (SI.val w))) := by kernel_rfl
set_option maxHeartbeats 4000000 in
theorem cmOf : Con ea has gl 62 kmOf := by
  refine plain_mk Tryd.func62 34 (con := [(69, kmBits)]) ⟨cmBits, trivial⟩ (fun hA hr hv => ?_) (by kernel_rfl) (by kernel_rfl) Tryd.ntmps62
  unfold kmOf at hr; split at hr
  · rename_i w
    have := ret_ok hr; subst this
    refine ⟨_, [], rfl, rfl, (argmOf w).mpr (by simp), rfl, (fun W R ρ0 own0 hown => noSums (by kernel_rfl)), (runmOf gl w).mpr ?_⟩
    clear hr
    have hw := DenA.i0 hA
    have h0 : 0 ≤ w.val ∧ w.val < 4294967296 := by have h1 := hw.lo; have h2 := hw.hi; simp only [kmin, kmax] at h1 h2; omega
    clear hA hv hw
    generalize w.val = w at *
    rw [show Int.ofNat (255 + 1) = 256 from rfl, and2 h0, and4 h0]
    have e1 : decide (0 < w % 2) = decide (w % 2 = 1) := decide_eq_decide.2 (by omega)
    have e2 : decide (0 < w / 2 % 2 * 2) = decide (w / 2 % 2 = 1) := decide_eq_decide.2 (by omega)
    have e3 : decide (0 < w / 4 % 2 * 4) = decide (w / 4 % 2 = 1) := decide_eq_decide.2 (by omega)
    rw [e1, e2, e3, ← Bool.not_and, bits_back h0.1]
    have hF := enF_in h0.1
    unfold enF enT enW enU at *
    cases hk : enOk w <;> simp [hk] at hF ⊢ <;> omega
  · cases hr
def krOfBits : List SVal → Nat → Acc ORes := fun a n => match a with | [.int .u32 w] => .ret ({ v := .tuple [enV w.val, .bool (.sym (enOk w.val))] }) | _ => .fail "rOfBits"
theorem argrOfBits (w : SI) : (all (subL tAtN none' [] deep [.int .u32 w] [.int .u32 (.full w.val)])) = (
  SI.val w = SI.val w) := by kernel_rfl
theorem runrOfBits (gl : List (Nat × SVal)) (w : SI) : (Tr.sat (plainQ (.tuple [enV w.val, .bool (.sym (enOk w.val))])) (run (env gl [(33, krBits)]) [] (bodyOf Tryd.f68) (start [.int .u32 (.full w.val)] 37) (ends (env gl [(33, krBits)]) Tryd.f68.results.toList))) = (
  (decide (SI.val w = (0 : Int)) = true → (0 : Int) = enF (SI.val w) ∧ false = enT (SI.val w) ∧ false = enW (SI.val w) ∧ false = enU (SI.val w) ∧ true = enOk (SI.val w)) ∧ (decide (SI.val w = (0 : Int)) = false → ((!bitsOk (SI.val w / (256 : Int)) (!decide (SI.val w % (2 : Int) = (0 : Int))) (!decide (bits BinOp.and IntKind.u32 (SI.val w) (2 : Int) = (0 : Int))) !decide (bits BinOp.and IntKind.u32 (SI.val w) (4 : Int) = (0 : Int)) || !decide ((bitsW (SI.val w / (256 : Int)) (!decide (SI.val w % (2 : Int) = (0 : Int))) (!decide (bits BinOp.and IntKind.u32 (SI.val w) (2 : Int) = (0 : Int))) !decide (bits BinOp.and IntKind.u32 (SI.val w) (4 : Int) = (0 : Int))) = SI.val w)) = true → (0 : Int) = enF (SI.val w) ∧ false = enT (SI.val w) ∧ false = enW (SI.val w) ∧ false = enU (SI.val w) ∧ false = enOk (SI.val w)) ∧ ((!bitsOk (SI.val w / (256 : Int)) (!decide (SI.val w % (2 : Int) = (0 : Int))) (!decide (bits BinOp.and IntKind.u32 (SI.val w) (2 : Int) = (0 : Int))) !decide (bits BinOp.and IntKind.u32 (SI.val w) (4 : Int) = (0 : Int)) || !decide ((bitsW (SI.val w / (256 : Int)) (!decide (SI.val w % (2 : Int) = (0 : Int))) (!decide (bits BinOp.and IntKind.u32 (SI.val w) (2 : Int) = (0 : Int))) !decide (bits BinOp.and IntKind.u32 (SI.val w) (4 : Int) = (0 : Int))) = SI.val w)) = false → SI.val w / (256 : Int) = enF (SI.val w) ∧ ((0 : Int) ≤ enF (SI.val w) ∧ enF (SI.val w) ≤ (1023 : Int)) ∧ (!decide (SI.val w % (2 : Int) = (0 : Int))) = enT (SI.val w) ∧ (!decide (bits BinOp.and IntKind.u32 (SI.val w) (2 : Int) = (0 : Int))) = enW (SI.val w) ∧ (!decide (bits BinOp.and IntKind.u32 (SI.val w) (4 : Int) = (0 : Int))) = enU (SI.val w) ∧ true = enOk (SI.val w)))) := by kernel_rfl
set_option maxHeartbeats 4000000 in
theorem crOfBits : Con ea has gl 68 krOfBits := by
  refine plain_mk Tryd.func68 37 (con := [(33, krBits)]) ⟨crBits, trivial⟩ (fun hA hr hv => ?_) (by kernel_rfl) (by kernel_rfl) Tryd.ntmps68
  unfold krOfBits at hr; split at hr
  · rename_i w
    have := ret_ok hr; subst this
    refine ⟨_, [], rfl, rfl, (argrOfBits w).mpr (by simp), rfl, (fun W R ρ0 own0 hown => noSums (by kernel_rfl)), (runrOfBits gl w).mpr ?_⟩
    clear hr
    have hw := DenA.i0 hA
    have h0 : 0 ≤ w.val ∧ w.val < 4294967296 := by have h1 := hw.lo; have h2 := hw.hi; simp only [kmin, kmax] at h1 h2; omega
    clear hA hv hw
    generalize w.val = w at *
    rw [and2 h0, and4 h0]
    have e1 : (!decide (w % 2 = 0)) = decide (w % 2 = 1) := by rw [Bool.eq_iff_iff]; simp; omega
    have e2 : (!decide (w / 2 % 2 * 2 = 0)) = decide (w / 2 % 2 = 1) := by rw [Bool.eq_iff_iff]; simp; omega
    have e3 : (!decide (w / 4 % 2 * 4 = 0)) = decide (w / 4 % 2 = 1) := by rw [Bool.eq_iff_iff]; simp; omega
    rw [e1, e2, e3, ← Bool.not_and, bits_back h0.1]
    have hF := enF_in h0.1
    refine ⟨fun h => ?_, fun _ => ?_⟩
    · have := of_decide_eq_true h; subst this; decide
    · unfold enF enT enW enU at *
      cases hk : enOk w <;> simp [hk] at hF ⊢ <;> omega
  · cases hr
def kmentry : List SVal → Nat → Acc ORes := fun a n => match a with | [.rop [.ro .u32 l], .int .i64 f, .int .i64 i] => .ret ({ v := .tuple [enV (entW l f.val i.val), .bool (.sym (entOk l f.val i.val))], vc := some (0 ≤ i.val ∧ i.val < 16) }) | _ => .fail "mentry"
theorem argmentry (l : List Int) (f i : SI) : (all (subL tAtN none' [] deep [.rop [.ro .u32 l], .int .i64 f, .int .i64 i] [.rop [.ro .u32 l], .int .i64 (.full f.val), .int .i64 (.full i.val)])) = (
  l = l ∧ SI.val f = SI.val f ∧ SI.val i = SI.val i) := by kernel_rfl
theorem runmentry (gl : List (Nat × SVal)) (l : List Int) (f i : SI) : (Tr.sat (plainQ (.tuple [enV (entW l f.val i.val), .bool (.sym (entOk l f.val i.val))])) (run (env gl [(59, kmFrames), (51, kmRead), (62, kmOf)]) [] (bodyOf Tryd.f49) (start [.rop [.ro .u32 l], .int .i64 (.full f.val), .int .i64 (.full i.val)] 44) (ends (env gl [(59, kmFrames), (51, kmRead), (62, kmOf)]) Tryd.f49.results.toList))) = (
  ((decide (SI.val f < (0 : Int)) || decide (frN l ≤ SI.val f)) = true → (0 : Int) = enF (entW l (SI.val f) (SI.val i)) ∧ false = enT (entW l (SI.val f) (SI.val i)) ∧ false = enW (entW l (SI.val f) (SI.val i)) ∧ false = enU (entW l (SI.val f) (SI.val i)) ∧ false = entOk l (SI.val f) (SI.val i)) ∧ ((decide (SI.val f < (0 : Int)) || decide (frN l ≤ SI.val f)) = false → ((!enOk (rd l (IntKind.wrap IntKind.i64 (IntKind.wrap IntKind.i64 (SI.val f * (16 : Int)) + SI.val i))) || !enT (rd l (IntKind.wrap IntKind.i64 (IntKind.wrap IntKind.i64 (SI.val f * (16 : Int)) + SI.val i)))) = true → (0 : Int) = enF (entW l (SI.val f) (SI.val i)) ∧ false = enT (entW l (SI.val f) (SI.val i)) ∧ false = enW (entW l (SI.val f) (SI.val i)) ∧ false = enU (entW l (SI.val f) (SI.val i)) ∧ false = entOk l (SI.val f) (SI.val i)) ∧ ((!enOk (rd l (IntKind.wrap IntKind.i64 (IntKind.wrap IntKind.i64 (SI.val f * (16 : Int)) + SI.val i))) || !enT (rd l (IntKind.wrap IntKind.i64 (IntKind.wrap IntKind.i64 (SI.val f * (16 : Int)) + SI.val i)))) = false → enF (rd l (IntKind.wrap IntKind.i64 (IntKind.wrap IntKind.i64 (SI.val f * (16 : Int)) + SI.val i))) = enF (entW l (SI.val f) (SI.val i)) ∧ enT (rd l (IntKind.wrap IntKind.i64 (IntKind.wrap IntKind.i64 (SI.val f * (16 : Int)) + SI.val i))) = enT (entW l (SI.val f) (SI.val i)) ∧ enW (rd l (IntKind.wrap IntKind.i64 (IntKind.wrap IntKind.i64 (SI.val f * (16 : Int)) + SI.val i))) = enW (entW l (SI.val f) (SI.val i)) ∧ enU (rd l (IntKind.wrap IntKind.i64 (IntKind.wrap IntKind.i64 (SI.val f * (16 : Int)) + SI.val i))) = enU (entW l (SI.val f) (SI.val i)) ∧ true = entOk l (SI.val f) (SI.val i)))) := by kernel_rfl
set_option maxHeartbeats 4000000 in
theorem cmentry : Con ea has gl 49 kmentry := by
  refine plain_mk Tryd.func49 44 (con := [(59, kmFrames), (51, kmRead), (62, kmOf)]) ⟨cmFrames, cmRead, cmOf, trivial⟩ (fun hA hr hv => ?_) (by kernel_rfl) (by kernel_rfl) Tryd.ntmps49
  unfold kmentry at hr; split at hr
  · rename_i l f i
    have := ret_ok hr; subst this
    replace hv := hv _ rfl
    refine ⟨_, [], rfl, rfl, (argmentry l f i).mpr (by simp), rfl, (fun W R ρ0 own0 hown => noSums (by kernel_rfl)), (runmentry gl l f i).mpr ?_⟩
    clear hr
    obtain ⟨hl, hW⟩ := mem_fact hA
    have hl : l.length ≤ 9223372036854775807 := hl
    clear hA
    generalize f.val = f at *
    generalize i.val = i at *
    have hn := frN_in l
    refine ⟨fun h => ?_, fun h => ?_⟩
    · have hk : entOk l f i = false := by unfold entOk; simp at h ⊢; omega
      rw [entW, hk]; exact ⟨rfl, rfl, rfl, rfl, rfl⟩
    · simp at h
      have e : IntKind.i64.wrap (IntKind.i64.wrap (f * 16) + i) = f * 16 + i := by simp only [IntKind.wrap_i64]; omega
      have e2 : entOk l f i = enT (rd l (f * 16 + i)) := by unfold entOk; simp; omega
      have e3 : (!enOk (rd l (f * 16 + i)) || !enT (rd l (f * 16 + i))) = !entOk l f i := by
        rw [e2]; unfold enT; cases enOk (rd l (f * 16 + i)) <;> simp
      rw [e, e3]
      unfold entW
      cases hk : entOk l f i <;> simp [hk, en_zero]
  · cases hr
def kmPage : List SVal → Nat → Acc ORes := fun a n => match a with | [.rop [.ro .u32 l], .int .i64 r, .int .i64 p] => .ret ({ v := .tuple [enV (pgW l r.val p.val), .bool (.sym (pgOk l r.val p.val))] }) | _ => .fail "mPage"
theorem argmPage (l : List Int) (r p : SI) : (all (subL tAtN none' [] deep [.rop [.ro .u32 l], .int .i64 r, .int .i64 p] [.rop [.ro .u32 l], .int .i64 (.full r.val), .int .i64 (.full p.val)])) = (
  l = l ∧ SI.val r = SI.val r ∧ SI.val p = SI.val p) := by kernel_rfl
theorem runmPage (gl : List (Nat × SVal)) (l : List Int) (r p : SI) : (Tr.sat (plainQ (.tuple [enV (pgW l r.val p.val), .bool (.sym (pgOk l r.val p.val))])) (run (env gl [(49, kmentry)]) [] (bodyOf Tryd.f26) (start [.rop [.ro .u32 l], .int .i64 (.full r.val), .int .i64 (.full p.val)] 36) (ends (env gl [(49, kmentry)]) Tryd.f26.results.toList))) = (
  ((decide (SI.val p < (0 : Int)) || decide ((256 : Int) ≤ SI.val p)) = true → (0 : Int) = enF (pgW l (SI.val r) (SI.val p)) ∧ false = enT (pgW l (SI.val r) (SI.val p)) ∧ false = enW (pgW l (SI.val r) (SI.val p)) ∧ false = enU (pgW l (SI.val r) (SI.val p)) ∧ false = pgOk l (SI.val r) (SI.val p)) ∧ ((decide (SI.val p < (0 : Int)) || decide ((256 : Int) ≤ SI.val p)) = false → (16 : Int) ≠ (0 : Int) ∧ ((16 : Int) ≠ (0 : Int) → ((0 : Int) ≤ IntKind.wrap IntKind.i64 (Int.tdiv (SI.val p) (16 : Int)) ∧ IntKind.wrap IntKind.i64 (Int.tdiv (SI.val p) (16 : Int)) < (16 : Int)) ∧ ((0 : Int) ≤ IntKind.wrap IntKind.i64 (Int.tdiv (SI.val p) (16 : Int)) ∧ IntKind.wrap IntKind.i64 (Int.tdiv (SI.val p) (16 : Int)) < (16 : Int) → ((!entOk l (SI.val r) (IntKind.wrap IntKind.i64 (Int.tdiv (SI.val p) (16 : Int)))) = true → (0 : Int) = enF (pgW l (SI.val r) (SI.val p)) ∧ false = enT (pgW l (SI.val r) (SI.val p)) ∧ false = enW (pgW l (SI.val r) (SI.val p)) ∧ false = enU (pgW l (SI.val r) (SI.val p)) ∧ false = pgOk l (SI.val r) (SI.val p)) ∧ ((!entOk l (SI.val r) (IntKind.wrap IntKind.i64 (Int.tdiv (SI.val p) (16 : Int)))) = false → (16 : Int) ≠ (0 : Int) ∧ ((16 : Int) ≠ (0 : Int) → ((0 : Int) ≤ Int.tmod (SI.val p) (16 : Int) ∧ Int.tmod (SI.val p) (16 : Int) < (16 : Int)) ∧ ((0 : Int) ≤ Int.tmod (SI.val p) (16 : Int) ∧ Int.tmod (SI.val p) (16 : Int) < (16 : Int) → enF (entW l (enF (entW l (SI.val r) (IntKind.wrap IntKind.i64 (Int.tdiv (SI.val p) (16 : Int))))) (Int.tmod (SI.val p) (16 : Int))) = enF (pgW l (SI.val r) (SI.val p)) ∧ enT (entW l (enF (entW l (SI.val r) (IntKind.wrap IntKind.i64 (Int.tdiv (SI.val p) (16 : Int))))) (Int.tmod (SI.val p) (16 : Int))) = enT (pgW l (SI.val r) (SI.val p)) ∧ enW (entW l (enF (entW l (SI.val r) (IntKind.wrap IntKind.i64 (Int.tdiv (SI.val p) (16 : Int))))) (Int.tmod (SI.val p) (16 : Int))) = enW (pgW l (SI.val r) (SI.val p)) ∧ enU (entW l (enF (entW l (SI.val r) (IntKind.wrap IntKind.i64 (Int.tdiv (SI.val p) (16 : Int))))) (Int.tmod (SI.val p) (16 : Int))) = enU (pgW l (SI.val r) (SI.val p)) ∧ entOk l (enF (entW l (SI.val r) (IntKind.wrap IntKind.i64 (Int.tdiv (SI.val p) (16 : Int))))) (Int.tmod (SI.val p) (16 : Int)) = pgOk l (SI.val r) (SI.val p)))))))) := by kernel_rfl
set_option maxHeartbeats 4000000 in
theorem cmPage : Con ea has gl 26 kmPage := by
  refine plain_mk Tryd.func26 36 (con := [(49, kmentry)]) ⟨cmentry, trivial⟩ (fun hA hr hv => ?_) (by kernel_rfl) (by kernel_rfl) Tryd.ntmps26
  unfold kmPage at hr; split at hr
  · rename_i l r p
    have := ret_ok hr; subst this
    refine ⟨_, [], rfl, rfl, (argmPage l r p).mpr (by simp), rfl, (fun W R ρ0 own0 hown => noSums (by kernel_rfl)), (runmPage gl l r p).mpr ?_⟩
    clear hr
    clear hA hv
    generalize r.val = r
    generalize p.val = p
    refine ⟨fun h => ?_, fun h => ?_⟩
    · have hk : pgOk l r p = false := by unfold pgOk; simp at h ⊢; omega
      rw [pgW, hk]; exact ⟨rfl, rfl, rfl, rfl, rfl⟩
    · simp at h
      have e : IntKind.i64.wrap (p.tdiv 16) = p / 16 := by rw [Int.tdiv_eq_ediv_of_nonneg (by omega), IntKind.wrap_i64]; omega
      have e' : p.tmod 16 = p % 16 := Int.tmod_eq_emod_of_nonneg (by omega)
      have e2 : pgOk l r p = (entOk l r (p / 16) && entOk l (enF (entW l r (p / 16))) (p % 16)) := by unfold pgOk; simp; omega
      rw [e, e']
      refine ⟨by decide, fun _ => ⟨by omega, fun _ => ⟨fun h1 => ?_, fun h1 => ⟨by decide, fun _ => ⟨by omega, fun _ => ?_⟩⟩⟩⟩⟩
      · have hk : pgOk l r p = false := by rw [e2]; simp at h1; rw [h1]; rfl
        rw [pgW, hk]; exact ⟨rfl, rfl, rfl, rfl, rfl⟩
      · simp at h1
        rw [pgW, e2, h1, Bool.true_and]
        cases hk : entOk l (enF (entW l r (p / 16))) (p % 16) with
        | false =>
          have h5 : entW l (enF (entW l r (p / 16))) (p % 16) = 0 := by rw [entW, hk]; rfl
          rw [h5]; simp
        | true => simp
  · cases hr
def kmWalk : List SVal → Nat → Acc ORes := fun a n => match a with | [.rop [.ro .u32 l], .int .i64 r, .int .u32 a, .bool w, .bool u] => .ret ({ v := .tuple [.int .i64 (.sym (wkA l r.val a.val w.val u.val) 0 16383), .bool (.sym (wkOk l r.val a.val w.val u.val))] }) | _ => .fail "mWalk"
theorem argmWalk (l : List Int) (r a : SI) (w u : SB) : (all (subL tAtN none' [] deep [.rop [.ro .u32 l], .int .i64 r, .int .u32 a, .bool w, .bool u] [.rop [.ro .u32 l], .int .i64 (.full r.val), .int .u32 (.full a.val), .bool (.sym w.val), .bool (.sym u.val)])) = (
  l = l ∧ SI.val r = SI.val r ∧ SI.val a = SI.val a ∧ SB.val w = SB.val w ∧ SB.val u = SB.val u) := by kernel_rfl
theorem runmWalk (gl : List (Nat × SVal)) (l : List Int) (r a : SI) (w u : SB) : (Tr.sat (plainQ (.tuple [.int .i64 (.sym (wkA l r.val a.val w.val u.val) 0 16383), .bool (.sym (wkOk l r.val a.val w.val u.val))])) (run (env gl [(26, kmPage), (59, kmFrames)]) [] (bodyOf Tryd.f50) (start [.rop [.ro .u32 l], .int .i64 (.full r.val), .int .u32 (.full a.val), .bool (.sym w.val), .bool (.sym u.val)] 57) (ends (env gl [(26, kmPage), (59, kmFrames)]) Tryd.f50.results.toList))) = (
  (decide ((4096 : Int) ≤ SI.val a) = true → (0 : Int) = wkA l (SI.val r) (SI.val a) (SB.val w) (SB.val u) ∧ false = wkOk l (SI.val r) (SI.val a) (SB.val w) (SB.val u)) ∧ (decide ((4096 : Int) ≤ SI.val a) = false → ((!pgOk l (SI.val r) (SI.val a / Int.ofNat (nat_lit 15 + (1 : Nat))) || SB.val w && !enW (pgW l (SI.val r) (SI.val a / Int.ofNat (nat_lit 15 + (1 : Nat)))) || SB.val u && !enU (pgW l (SI.val r) (SI.val a / Int.ofNat (nat_lit 15 + (1 : Nat)))) || decide (frN l ≤ enF (pgW l (SI.val r) (SI.val a / Int.ofNat (nat_lit 15 + (1 : Nat)))))) = true → (0 : Int) = wkA l (SI.val r) (SI.val a) (SB.val w) (SB.val u) ∧ false = wkOk l (SI.val r) (SI.val a) (SB.val w) (SB.val u)) ∧ ((!pgOk l (SI.val r) (SI.val a / Int.ofNat (nat_lit 15 + (1 : Nat))) || SB.val w && !enW (pgW l (SI.val r) (SI.val a / Int.ofNat (nat_lit 15 + (1 : Nat)))) || SB.val u && !enU (pgW l (SI.val r) (SI.val a / Int.ofNat (nat_lit 15 + (1 : Nat)))) || decide (frN l ≤ enF (pgW l (SI.val r) (SI.val a / Int.ofNat (nat_lit 15 + (1 : Nat)))))) = false → enF (pgW l (SI.val r) (SI.val a / Int.ofNat (nat_lit 15 + (1 : Nat)))) * (16 : Int) + SI.val a % Int.ofNat (nat_lit 15 + (1 : Nat)) = wkA l (SI.val r) (SI.val a) (SB.val w) (SB.val u) ∧ true = wkOk l (SI.val r) (SI.val a) (SB.val w) (SB.val u)))) := by kernel_rfl
set_option maxHeartbeats 4000000 in
theorem cmWalk : Con ea has gl 50 kmWalk := by
  refine plain_mk Tryd.func50 57 (con := [(26, kmPage), (59, kmFrames)]) ⟨cmPage, cmFrames, trivial⟩ (fun hA hr hv => ?_) (by kernel_rfl) (by kernel_rfl) Tryd.ntmps50
  unfold kmWalk at hr; split at hr
  · rename_i l r a w u
    have := ret_ok hr; subst this
    refine ⟨_, [], rfl, rfl, (argmWalk l r a w u).mpr (by simp), rfl, (fun W R ρ0 own0 hown => noSums (by kernel_rfl)), (runmWalk gl l r a w u).mpr ?_⟩
    clear hr
    obtain ⟨hl, hW⟩ := mem_fact hA
    obtain ⟨us, hB⟩ := DenA.tl hA
    obtain ⟨us, hB⟩ := DenA.tl hB
    have ha := DenA.i0 hB
    have h0 : 0 ≤ a.val := ha.lo
    clear hA hv hB ha
    generalize r.val = r
    generalize a.val = a at *
    generalize w.val = w
    generalize u.val = u
    rw [show Int.ofNat (15 + 1) = 16 from rfl]
    refine ⟨fun h => ?_, fun h => ?_⟩
    · have hk : wkOk l r a w u = false := by unfold wkOk; simp at h ⊢; omega
      rw [wkA, hk]; exact ⟨rfl, rfl⟩
    · simp at h
      have e : (!pgOk l r (a / 16) || w && !enW (pgW l r (a / 16)) || u && !enU (pgW l r (a / 16)) || decide (frN l ≤ enF (pgW l r (a / 16)))) = !wkOk l r a w u := by
        unfold wkOk
        rw [decide_eq_true (by omega : a < 4096)]
        have : decide (frN l ≤ enF (pgW l r (a / 16))) = !decide (enF (pgW l r (a / 16)) < frN l) := by rw [Bool.eq_iff_iff]; simp
        rw [this]
        cases pgOk l r (a / 16) <;> cases w <;> cases u <;> simp
      rw [e, wkA]
      cases hk : wkOk l r a w u <;> simp
  · cases hr
def krPage : List SVal → Nat → Acc ORes := fun a n => match a with | [.rop [.ro .u32 l], .int .i64 r, .int .i64 p] => .ret ({ v := .tuple [enV (pgW l r.val p.val), .bool (.sym (pgOk l r.val p.val))] }) | _ => .fail "rPage"
theorem argrPage (l : List Int) (r p : SI) : (all (subL tAtN none' [] deep [.rop [.ro .u32 l], .int .i64 r, .int .i64 p] [.rop [.ro .u32 l], .int .i64 (.full r.val), .int .i64 (.full p.val)])) = (
  l = l ∧ SI.val r = SI.val r ∧ SI.val p = SI.val p) := by kernel_rfl
theorem runrPage (gl : List (Nat × SVal)) (l : List Int) (r p : SI) : (Tr.sat (plainQ (.tuple [enV (pgW l r.val p.val), .bool (.sym (pgOk l r.val p.val))])) (run (env gl [(45, krFrames), (42, krRead), (68, krOfBits)]) [] (bodyOf Tryd.f56) (start [.rop [.ro .u32 l], .int .i64 (.full r.val), .int .i64 (.full p.val)] 88) (ends (env gl [(45, krFrames), (42, krRead), (68, krOfBits)]) Tryd.f56.results.toList))) = (
  ((decide (SI.val p < (0 : Int)) || decide ((256 : Int) ≤ SI.val p) || decide (SI.val r < (0 : Int)) || decide (frN l ≤ SI.val r)) = true → (0 : Int) = enF (pgW l (SI.val r) (SI.val p)) ∧ false = enT (pgW l (SI.val r) (SI.val p)) ∧ false = enW (pgW l (SI.val r) (SI.val p)) ∧ false = enU (pgW l (SI.val r) (SI.val p)) ∧ false = pgOk l (SI.val r) (SI.val p)) ∧ ((decide (SI.val p < (0 : Int)) || decide ((256 : Int) ≤ SI.val p) || decide (SI.val r < (0 : Int)) || decide (frN l ≤ SI.val r)) = false → (16 : Int) ≠ (0 : Int) ∧ ((16 : Int) ≠ (0 : Int) → ((!enOk (rd l (IntKind.wrap IntKind.i64 (IntKind.wrap IntKind.i64 (SI.val r * (16 : Int)) + IntKind.wrap IntKind.i64 (Int.tdiv (SI.val p) (16 : Int))))) || !enT (rd l (IntKind.wrap IntKind.i64 (IntKind.wrap IntKind.i64 (SI.val r * (16 : Int)) + IntKind.wrap IntKind.i64 (Int.tdiv (SI.val p) (16 : Int))))) || decide (frN l ≤ enF (rd l (IntKind.wrap IntKind.i64 (IntKind.wrap IntKind.i64 (SI.val r * (16 : Int)) + IntKind.wrap IntKind.i64 (Int.tdiv (SI.val p) (16 : Int))))))) = true → (0 : Int) = enF (pgW l (SI.val r) (SI.val p)) ∧ false = enT (pgW l (SI.val r) (SI.val p)) ∧ false = enW (pgW l (SI.val r) (SI.val p)) ∧ false = enU (pgW l (SI.val r) (SI.val p)) ∧ false = pgOk l (SI.val r) (SI.val p)) ∧ ((!enOk (rd l (IntKind.wrap IntKind.i64 (IntKind.wrap IntKind.i64 (SI.val r * (16 : Int)) + IntKind.wrap IntKind.i64 (Int.tdiv (SI.val p) (16 : Int))))) || !enT (rd l (IntKind.wrap IntKind.i64 (IntKind.wrap IntKind.i64 (SI.val r * (16 : Int)) + IntKind.wrap IntKind.i64 (Int.tdiv (SI.val p) (16 : Int))))) || decide (frN l ≤ enF (rd l (IntKind.wrap IntKind.i64 (IntKind.wrap IntKind.i64 (SI.val r * (16 : Int)) + IntKind.wrap IntKind.i64 (Int.tdiv (SI.val p) (16 : Int))))))) = false → (16 : Int) ≠ (0 : Int) ∧ ((16 : Int) ≠ (0 : Int) → ((!enOk (rd l (IntKind.wrap IntKind.i64 (enF (rd l (IntKind.wrap IntKind.i64 (IntKind.wrap IntKind.i64 (SI.val r * (16 : Int)) + IntKind.wrap IntKind.i64 (Int.tdiv (SI.val p) (16 : Int))))) * (16 : Int) + Int.tmod (SI.val p) (16 : Int)))) || !enT (rd l (IntKind.wrap IntKind.i64 (enF (rd l (IntKind.wrap IntKind.i64 (IntKind.wrap IntKind.i64 (SI.val r * (16 : Int)) + IntKind.wrap IntKind.i64 (Int.tdiv (SI.val p) (16 : Int))))) * (16 : Int) + Int.tmod (SI.val p) (16 : Int))))) = true → (0 : Int) = enF (pgW l (SI.val r) (SI.val p)) ∧ false = enT (pgW l (SI.val r) (SI.val p)) ∧ false = enW (pgW l (SI.val r) (SI.val p)) ∧ false = enU (pgW l (SI.val r) (SI.val p)) ∧ false = pgOk l (SI.val r) (SI.val p)) ∧ ((!enOk (rd l (IntKind.wrap IntKind.i64 (enF (rd l (IntKind.wrap IntKind.i64 (IntKind.wrap IntKind.i64 (SI.val r * (16 : Int)) + IntKind.wrap IntKind.i64 (Int.tdiv (SI.val p) (16 : Int))))) * (16 : Int) + Int.tmod (SI.val p) (16 : Int)))) || !enT (rd l (IntKind.wrap IntKind.i64 (enF (rd l (IntKind.wrap IntKind.i64 (IntKind.wrap IntKind.i64 (SI.val r * (16 : Int)) + IntKind.wrap IntKind.i64 (Int.tdiv (SI.val p) (16 : Int))))) * (16 : Int) + Int.tmod (SI.val p) (16 : Int))))) = false → enF (rd l (IntKind.wrap IntKind.i64 (enF (rd l (IntKind.wrap IntKind.i64 (IntKind.wrap IntKind.i64 (SI.val r * (16 : Int)) + IntKind.wrap IntKind.i64 (Int.tdiv (SI.val p) (16 : Int))))) * (16 : Int) + Int.tmod (SI.val p) (16 : Int)))) = enF (pgW l (SI.val r) (SI.val p)) ∧ enT (rd l (IntKind.wrap IntKind.i64 (enF (rd l (IntKind.wrap IntKind.i64 (IntKind.wrap IntKind.i64 (SI.val r * (16 : Int)) + IntKind.wrap IntKind.i64 (Int.tdiv (SI.val p) (16 : Int))))) * (16 : Int) + Int.tmod (SI.val p) (16 : Int)))) = enT (pgW l (SI.val r) (SI.val p)) ∧ enW (rd l (IntKind.wrap IntKind.i64 (enF (rd l (IntKind.wrap IntKind.i64 (IntKind.wrap IntKind.i64 (SI.val r * (16 : Int)) + IntKind.wrap IntKind.i64 (Int.tdiv (SI.val p) (16 : Int))))) * (16 : Int) + Int.tmod (SI.val p) (16 : Int)))) = enW (pgW l (SI.val r) (SI.val p)) ∧ enU (rd l (IntKind.wrap IntKind.i64 (enF (rd l (IntKind.wrap IntKind.i64 (IntKind.wrap IntKind.i64 (SI.val r * (16 : Int)) + IntKind.wrap IntKind.i64 (Int.tdiv (SI.val p) (16 : Int))))) * (16 : Int) + Int.tmod (SI.val p) (16 : Int)))) = enU (pgW l (SI.val r) (SI.val p)) ∧ true = pgOk l (SI.val r) (SI.val p))))))) := by kernel_rfl
set_option maxHeartbeats 4000000 in
theorem crPage : Con ea has gl 56 krPage := by
  refine plain_mk Tryd.func56 88 (con := [(45, krFrames), (42, krRead), (68, krOfBits)]) ⟨crFrames, crRead, crOfBits, trivial⟩ (fun hA hr hv => ?_) (by kernel_rfl) (by kernel_rfl) Tryd.ntmps56
  unfold krPage at hr; split at hr
  · rename_i l r p
    have := ret_ok hr; subst this
    refine ⟨_, [], rfl, rfl, (argrPage l r p).mpr (by simp), rfl, (fun W R ρ0 own0 hown => noSums (by kernel_rfl)), (runrPage gl l r p).mpr ?_⟩
    clear hr
    obtain ⟨hl, hW⟩ := mem_fact hA
    have hl : l.length ≤ 9223372036854775807 := hl
    clear hA hv
    generalize r.val = r
    generalize p.val = p
    have hn := frN_in l
    refine ⟨fun h => ?_, fun h => ?_⟩
    · have hk : pgOk l r p = false := by unfold pgOk entOk; simp at h ⊢; omega
      rw [pgW, hk]; exact ⟨rfl, rfl, rfl, rfl, rfl⟩
    · simp at h
      have e : IntKind.i64.wrap (p.tdiv 16) = p / 16 := by rw [Int.tdiv_eq_ediv_of_nonneg (by omega), IntKind.wrap_i64]; omega
      have e' : p.tmod 16 = p % 16 := Int.tmod_eq_emod_of_nonneg (by omega)
      have e1 : IntKind.i64.wrap (IntKind.i64.wrap (r * 16) + p / 16) = r * 16 + p / 16 := by simp only [IntKind.wrap_i64]; omega
      have k1 : entOk l r (p / 16) = enT (rd l (r * 16 + p / 16)) := by unfold entOk; simp; omega
      have hx := enF_in (rd_in hW (r * 16 + p / 16)).1
      rw [e, e', e1]
      have hr1 : decide (0 ≤ p) = true := decide_eq_true (by omega)
      have hr2 : decide (p < 256) = true := decide_eq_true (by omega)
      have hT : ∀ w, (!enOk w || !enT w) = !enT w := fun w => by unfold enT; cases enOk w <;> simp
      rw [hT]
      cases h1 : enT (rd l (r * 16 + p / 16)) with
      | false =>
        have hk : pgOk l r p = false := by unfold pgOk; rw [k1, h1]; simp
        rw [pgW, hk]; simp [en_zero]
      | true =>
        have w1 : entW l r (p / 16) = rd l (r * 16 + p / 16) := by rw [entW, k1, h1, if_pos rfl]
        have e3 : IntKind.i64.wrap (enF (rd l (r * 16 + p / 16)) * 16 + p % 16) = enF (rd l (r * 16 + p / 16)) * 16 + p % 16 := by simp only [IntKind.wrap_i64]; omega
        have k2 : pgOk l r p = entOk l (enF (rd l (r * 16 + p / 16))) (p % 16) := by unfold pgOk; rw [k1, h1, w1, hr1, hr2]; simp
        rw [e3, hT, pgW, k2, w1]
        generalize hf : enF (rd l (r * 16 + p / 16)) = f at *
        have k3 : decide (frN l ≤ f) = true → entOk l f (p % 16) = false := fun h => by unfold entOk; simp at h ⊢; omega
        have k4 : decide (frN l ≤ f) = false → entOk l f (p % 16) = enT (rd l (f * 16 + p % 16)) := fun h => by unfold entOk; simp at h ⊢; omega
        cases h2 : decide (frN l ≤ f) with
        | true => rw [k3 h2]; simp [en_zero]
        | false =>
          have k4 := k4 h2
          cases h3 : enT (rd l (f * 16 + p % 16)) with
          | false => rw [k4, h3]; simp [en_zero]
          | true => rw [h3] at k4; simp [entW, k4, h3]
  · cases hr
def krWalk : List SVal → Nat → Acc ORes := fun a n => match a with | [.rop [.ro .u32 l], .int .i64 r, .int .u32 a, .bool w, .bool u] => .ret ({ v := .tuple [.int .i64 (.sym (wkA l r.val a.val w.val u.val) 0 16383), .bool (.sym (wkOk l r.val a.val w.val u.val))] }) | _ => .fail "rWalk"
theorem argrWalk (l : List Int) (r a : SI) (w u : SB) : (all (subL tAtN none' [] deep [.rop [.ro .u32 l], .int .i64 r, .int .u32 a, .bool w, .bool u] [.rop [.ro .u32 l], .int .i64 (.full r.val), .int .u32 (.full a.val), .bool (.sym w.val), .bool (.sym u.val)])) = (
  l = l ∧ SI.val r = SI.val r ∧ SI.val a = SI.val a ∧ SB.val w = SB.val w ∧ SB.val u = SB.val u) := by kernel_rfl
theorem runrWalk (gl : List (Nat × SVal)) (l : List Int) (r a : SI) (w u : SB) : (Tr.sat (plainQ (.tuple [.int .i64 (.sym (wkA l r.val a.val w.val u.val) 0 16383), .bool (.sym (wkOk l r.val a.val w.val u.val))])) (run (env gl [(56, krPage), (45, krFrames)]) [] (bodyOf Tryd.f41) (start [.rop [.ro .u32 l], .int .i64 (.full r.val), .int .u32 (.full a.val), .bool (.sym w.val), .bool (.sym u.val)] 57) (ends (env gl [(56, krPage), (45, krFrames)]) Tryd.f41.results.toList))) = (
  (decide ((4096 : Int) ≤ SI.val a) = true → (0 : Int) = wkA l (SI.val r) (SI.val a) (SB.val w) (SB.val u) ∧ false = wkOk l (SI.val r) (SI.val a) (SB.val w) (SB.val u)) ∧ (decide ((4096 : Int) ≤ SI.val a) = false → ((!pgOk l (SI.val r) (SI.val a / Int.ofNat (nat_lit 15 + (1 : Nat))) || SB.val w && !enW (pgW l (SI.val r) (SI.val a / Int.ofNat (nat_lit 15 + (1 : Nat)))) || SB.val u && !enU (pgW l (SI.val r) (SI.val a / Int.ofNat (nat_lit 15 + (1 : Nat)))) || decide (frN l ≤ enF (pgW l (SI.val r) (SI.val a / Int.ofNat (nat_lit 15 + (1 : Nat)))))) = true → (0 : Int) = wkA l (SI.val r) (SI.val a) (SB.val w) (SB.val u) ∧ false = wkOk l (SI.val r) (SI.val a) (SB.val w) (SB.val u)) ∧ ((!pgOk l (SI.val r) (SI.val a / Int.ofNat (nat_lit 15 + (1 : Nat))) || SB.val w && !enW (pgW l (SI.val r) (SI.val a / Int.ofNat (nat_lit 15 + (1 : Nat)))) || SB.val u && !enU (pgW l (SI.val r) (SI.val a / Int.ofNat (nat_lit 15 + (1 : Nat)))) || decide (frN l ≤ enF (pgW l (SI.val r) (SI.val a / Int.ofNat (nat_lit 15 + (1 : Nat)))))) = false → enF (pgW l (SI.val r) (SI.val a / Int.ofNat (nat_lit 15 + (1 : Nat)))) * (16 : Int) + SI.val a % Int.ofNat (nat_lit 15 + (1 : Nat)) = wkA l (SI.val r) (SI.val a) (SB.val w) (SB.val u) ∧ true = wkOk l (SI.val r) (SI.val a) (SB.val w) (SB.val u)))) := by kernel_rfl
set_option maxHeartbeats 4000000 in
theorem crWalk : Con ea has gl 41 krWalk := by
  refine plain_mk Tryd.func41 57 (con := [(56, krPage), (45, krFrames)]) ⟨crPage, crFrames, trivial⟩ (fun hA hr hv => ?_) (by kernel_rfl) (by kernel_rfl) Tryd.ntmps41
  unfold krWalk at hr; split at hr
  · rename_i l r a w u
    have := ret_ok hr; subst this
    refine ⟨_, [], rfl, rfl, (argrWalk l r a w u).mpr (by simp), rfl, (fun W R ρ0 own0 hown => noSums (by kernel_rfl)), (runrWalk gl l r a w u).mpr ?_⟩
    clear hr
    obtain ⟨hl, hW⟩ := mem_fact hA
    obtain ⟨us, hB⟩ := DenA.tl hA
    obtain ⟨us, hB⟩ := DenA.tl hB
    have ha := DenA.i0 hB
    have h0 : 0 ≤ a.val := ha.lo
    clear hA hv hB ha
    generalize r.val = r
    generalize a.val = a at *
    generalize w.val = w
    generalize u.val = u
    rw [show Int.ofNat (15 + 1) = 16 from rfl]
    refine ⟨fun h => ?_, fun h => ?_⟩
    · have hk : wkOk l r a w u = false := by unfold wkOk; simp at h ⊢; omega
      rw [wkA, hk]; exact ⟨rfl, rfl⟩
    · simp at h
      have e : (!pgOk l r (a / 16) || w && !enW (pgW l r (a / 16)) || u && !enU (pgW l r (a / 16)) || decide (frN l ≤ enF (pgW l r (a / 16)))) = !wkOk l r a w u := by
        unfold wkOk
        rw [decide_eq_true (by omega : a < 4096)]
        have : decide (frN l ≤ enF (pgW l r (a / 16))) = !decide (enF (pgW l r (a / 16)) < frN l) := by rw [Bool.eq_iff_iff]; simp
        rw [this]
        cases pgOk l r (a / 16) <;> cases w <;> cases u <;> simp
      rw [e, wkA]
      cases hk : wkOk l r a w u <;> simp
  · cases hr
end
end Go.Proofs.YtfbagpbncfapbaaDoor

