/- Every operation but pick yields what 'sop' reckons; what it hangs on. -/
import Derived.Test.YtbdfibaljoedpaaDoorSySop2
set_option linter.unusedVariables false
set_option linter.unusedSimpArgs false
namespace Go.Sy
open Go.RowKit

section
variable {P : Program} {C : Ctx} {gl : List (Nat × SVal)} {E : Env} {W : World} {R : Nat → Prop} {ρ : Nat → Option Value} {h : Nat → Option Cont} {o : Oper} {a : Act}
variable {ev : Operand → SVal} {next : Nat} {r : ORes} {l l' : List Nat}

theorem sop_ok (S : Sit P C gl E W R ρ h o a ev next r l l') (hnp : ∀ c x y, o.op ≠ .pick c x y) : Yields P C gl o a W R ρ h r := by
  cases hop : o.op
  case pick => exact (hnp _ _ _ hop).elim
  case move => exact sop_move S hop
  case assign => exact sop_assign S hop
  case alloc => exact sop_alloc S hop
  case box => exact sop_box S hop
  case build => exact sop_build S hop
  case buildSlice => exact sop_buildSlice S hop
  case load => exact sop_load S hop
  case store => exact sop_store S hop
  case nilCheck => exact sop_nilCheck S hop
  case binOp => exact sop_binOp S hop
  case unOp => exact sop_unOp S hop
  case convert => exact sop_convert S hop
  case makeInterface => exact sop_makeInterface S hop
  case makeFunc => exact sop_makeFunc S hop
  case makeSlice => exact sop_makeSlice S hop
  case slice => exact sop_slice S hop
  case fieldAddr => exact sop_fieldAddr S hop
  case field => exact sop_field S hop
  case indexAddr => exact sop_indexAddr S hop
  case index => exact sop_index S hop
  case extract => exact sop_extract S hop
  case lookup => exact sop_lookup S hop
  case mapUpdate => exact sop_mapUpdate S hop
  case makeMap => exact sop_makeMap S hop
  case typeAssert => exact sop_typeAssert S hop
  case call => exact sop_call S hop
  all_goals (have hr := S.hr; unfold sop at hr; rw [hop] at hr; cases hr)

/-- What is looked at is all that an answer hangs on. -/
theorem Acc.run_look {α : Type} {look look' : Nat → Option Cont} : ∀ {A : Acc α} {l l' : List Nat} {x : α}, A.run look l = .ok (x, l') → (∀ n ∈ l', look' n = look n) → A.run look' l = .ok (x, l') ∧ (∀ n ∈ l, n ∈ l') := by
  intro A
  induction A with
  | ret y => intro l l' x h _; simp only [Acc.run] at h ⊢; cases h; exact ⟨rfl, fun _ h => h⟩
  | fail s => intro l l' x h; cases h
  | look q f ih =>
    intro l l' x h hl
    simp only [Acc.run] at h ⊢
    have := ih (look q) h hl
    have hq : q ∈ l' := this.2 q (by simp)
    rw [hl q hq]
    exact ⟨this.1, fun n hn => this.2 n (by simp [hn])⟩

theorem Call.operands_eq (c : Call) : ∀ x ∈ c.args.toList, x ∈ c.operands.toList := by
  intro x hx
  unfold Call.operands
  cases c.callee <;> simp_all
theorem sop_congr {ev ev' : Operand → SVal} (hev : ∀ x ∈ o.op.operands.toList, ev x = ev' x) : sop E o ev next = sop E o ev' next := by
  unfold sop
  cases hop : o.op <;> rw [hop] at hev <;> simp only [Op.operands] at hev <;> simp only
  case move x => rw [hev x (by simp)]
  case assign x => rw [hev x (by simp)]
  case pick c x y => rw [hev c (by simp), hev x (by simp), hev y (by simp)]
  case box t x => rw [hev x (by simp)]
  case build t ps =>
    have : (ps.toList.map fun (i, x) => (i, ev x)) = ps.toList.map fun (i, x) => (i, ev' x) := List.map_congr_left fun p hp => by
      have := hev p.2 (by simp; exact ⟨p.1, by simpa using hp⟩)
      exact congrArg (Prod.mk p.1) this
    rw [this]
  case buildSlice t n ps =>
    have : (ps.toList.map fun (i, x) => (i, ev x)) = ps.toList.map fun (i, x) => (i, ev' x) := List.map_congr_left fun p hp => by
      have := hev p.2 (by simp; exact ⟨p.1, by simpa using hp⟩)
      exact congrArg (Prod.mk p.1) this
    rw [this]
  case load t x => rw [hev x (by simp)]
  case store t x y => rw [hev x (by simp), hev y (by simp)]
  case nilCheck x => rw [hev x (by simp)]
  case binOp op t x y ty => rw [hev x (by simp), hev y (by simp)]
  case unOp op t x => rw [hev x (by simp)]
  case convert s d x => rw [hev x (by simp)]
  case makeInterface t x => rw [hev x (by simp)]
  case makeFunc f fi cap =>
    have : cap.toList.map ev = cap.toList.map ev' := List.map_congr_left fun p hp => hev p (by simp; exact .inr (by simpa using hp))
    rw [this]
  case makeSlice t n c => rw [hev n (by simp), hev c (by simp)]
  case slice t x lo hi mx =>
    have h1 : lo.map ev = lo.map ev' := by cases lo with | none => rfl | some y => simp; exact hev y (by simp)
    have h2 : hi.map ev = hi.map ev' := by cases hi with | none => rfl | some y => simp; exact hev y (by simp)
    rw [hev x (by simp), h1, h2]
  case fieldAddr s x f => rw [hev x (by simp)]
  case field s x f => rw [hev x (by simp)]
  case indexAddr t x i => rw [hev x (by simp), hev i (by simp)]
  case index t x i => rw [hev x (by simp), hev i (by simp)]
  case extract t i => rw [hev t (by simp)]
  case lookup t m k ok => rw [hev m (by simp), hev k (by simp)]
  case mapUpdate t m k x => rw [hev m (by simp), hev k (by simp), hev x (by simp)]
  case typeAssert x xt t ok => rw [hev x (by simp)]
  case call c =>
    have h1 : c.args.toList.map ev = c.args.toList.map ev' := List.map_congr_left fun p hp => hev p (Call.operands_eq c p hp)
    rw [h1]
    cases hc : c.callee with
    | builtin b => rfl
    | value f => simp only; rw [hev f (by unfold Call.operands; rw [hc]; simp)]
    | invoke x n => rfl
end
end Go.Sy
