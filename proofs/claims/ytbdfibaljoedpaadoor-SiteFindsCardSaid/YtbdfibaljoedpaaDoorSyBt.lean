/- What turns between two moments, names left aside. -/
import Derived.Test.YtbdfibaljoedpaaDoorSySop3
import Derived.Test.YtbdfibaljoedpaaDoorSyRun
set_option linter.unusedVariables false
set_option linter.unusedSimpArgs false
namespace Go.Sy
open Go.RowKit

/-- The blocks that known names hold. -/
def ownOf (ρ : Nat → Option Value) (h : Nat → Option Cont) (b : Nat) : Prop := ∃ r c v, h r = some c ∧ ρ r = some v ∧ blk v = some b

structure Bt (W : World) (R own : Nat → Prop) (W' : World) (R' own' : Nat → Prop) : Prop where
  os : W'.os = W.os
  tape : W'.tape = W.tape
  output : W'.output = W.output
  size : W.heap.size ≤ W'.heap.size
  Rm : ∀ b, R b → R' b
  Rn : ∀ b, R' b → R b ∨ W.heap.size ≤ b ∨ own b
  keep : ∀ k, k < W.heap.size → ¬ own k → W'.heap[k]? = W.heap[k]?
  owned : ∀ b, own' b → own b ∨ W.heap.size ≤ b

section
variable {C : Ctx} {gl : List (Nat × SVal)} {W W' W'' : World} {R R' R'' own own' own'' : Nat → Prop} {ρ ρ' : Nat → Option Value} {h h' : Nat → Option Cont}

theorem Bt.refl : Bt W R own W R own := ⟨rfl, rfl, rfl, Nat.le_refl _, fun _ h => h, fun _ h => .inl h, fun _ _ _ => rfl, fun _ h => .inl h⟩
theorem Bt.trans (a : Bt W R own W' R' own') (b : Bt W' R' own' W'' R'' own'') : Bt W R own W'' R'' own'' where
  os := b.os.trans a.os
  tape := b.tape.trans a.tape
  output := b.output.trans a.output
  size := Nat.le_trans a.size b.size
  Rm x h := b.Rm x (a.Rm x h)
  Rn x h := (b.Rn x h).elim (a.Rn x) fun g => g.elim (fun g => .inr (.inl (Nat.le_trans a.size g))) fun g => (a.owned x g).elim (fun g => .inr (.inr g)) fun g => .inr (.inl g)
  keep k hk ho := (b.keep k (Nat.lt_of_lt_of_le hk a.size) fun h => (a.owned k h).elim ho fun g => absurd hk (Nat.not_lt.2 g)).trans (a.keep k hk ho)
  owned x h := (b.owned x h).elim (a.owned x) fun g => .inr (Nat.le_trans a.size g)
theorem Bt.weaken (a : Bt W R own W' R' own') (hw : ∀ b, own'' b → own' b) : Bt W R own W' R' own'' :=
  { a with owned := fun b h => a.owned b (hw b h) }
/-- A region draws. -/
theorem Bt.world (a : Bt W R own W' R' own') (e : W''.os = W'.os ∧ W''.tape = W'.tape ∧ W''.output = W'.output ∧ W''.heap = W'.heap) : Bt W R own W'' R' own' where
  os := e.1.trans a.os
  tape := e.2.1.trans a.tape
  output := e.2.2.1.trans a.output
  size := by rw [e.2.2.2]; exact a.size
  Rm := a.Rm
  Rn := a.Rn
  keep k h1 h2 := by rw [e.2.2.2]; exact a.keep k h1 h2
  owned := a.owned
theorem Trans.bt {ws : List (Nat × Option Cont)} (t : Trans C gl W R ρ h ws W' R' ρ') : Bt W R (ownOf ρ h) W' R' (ownOf ρ' (upd h ws)) where
  os := t.os
  tape := t.tape
  output := t.output
  size := t.size
  Rm := t.Rm
  Rn b hb := (t.Rn b hb).imp id fun g => g.imp id fun ⟨r, c, v, _, h1, h2, h3⟩ => ⟨r, c, v, h1, h2, h3⟩
  keep k h1 h2 := t.keep k h1 fun r c v _ hc hv hb => h2 ⟨r, c, v, hc, hv, hb⟩
  owned b hb := by
    obtain ⟨r, c, v, hc, hv, hb⟩ := hb
    exact (t.owned r c v b hc hv hb).imp (fun ⟨r0, c0, v0, _, g1, g2, g3⟩ => ⟨r0, c0, v0, g1, g2, g3⟩) id
theorem ownOf.weaken (hw : ∀ r c, h' r = some c → h r = some c) : ∀ b, ownOf ρ h' b → ownOf ρ h b := fun b ⟨r, c, v, h1, h2, h3⟩ => ⟨r, c, v, hw r c h1, h2, h3⟩
theorem Mem.weaken (M : Mem C gl W R ρ h) (hw : ∀ r c, h' r = some c → h r = some c) : Mem C gl W R ρ h' where
  base := M.base
  at_ r c hc := M.at_ r c (hw r c hc)
  apart r r' c c' v v' b h1 h2 h3 h4 h5 h6 := M.apart r r' c c' v v' b (hw _ _ h1) (hw _ _ h2) h3 h4 h5 h6
  off r c v b h1 h2 h3 := M.off r c v b (hw _ _ h1) h2 h3
end
end Go.Sy
