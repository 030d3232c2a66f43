/- Contracts that the proofs use. -/
import Derived.Test.YtpjccdncokamlaaDoorQFnFst8b
import Derived.Test.YtpjccdncokamlaaDoorQBareS
import Derived.Test.YtpjccdncokamlaaDoorQBareL
set_option linter.unusedVariables false
set_option linter.unusedSimpArgs false
namespace Go.Proofs.YtpjccdncokamlaaDoor
open Go.RowKit Go.Sy Go.Fac
section
variable {ea : Ear} {has : Int → Prop} {gl : List (Nat × SVal)}
theorem iter_ok {B : Mc} {n k : Nat} (h : McI n B) (hl : few B.l) (hn : n + k ≤ 1000000) : mcOk (iterM true B k) ∧ few (iterM true B k).l := by
  have g := McI.iter (p := true) h k
  refine ⟨⟨?_, ?_, ?_, g.upd⟩, ?_⟩
  · have := g.keys; unfold few; omega
  · have := g.seen; unfold few; omega
  · have := g.w; unfold few; omega
  · unfold few; rw [iterM_len]; exact hl
theorem mc_eqX {a b : Mc} {P : Prop} (h : a = b) (hp : P) : a.c.r = b.c.r ∧ a.c.pc = b.c.pc ∧ a.c.ie = b.c.ie ∧ a.c.eie = b.c.eie ∧ a.c.epc = b.c.epc ∧ a.c.tv = b.c.tv ∧ a.c.cause = b.c.cause ∧ a.c.addr = b.c.addr ∧ a.quota = b.quota ∧ a.now = b.now ∧ a.over = b.over ∧
    a.d.sec = b.d.sec ∧ a.d.on = b.d.on ∧ a.d.at_ = b.d.at_ ∧ a.l = b.l ∧ a.w = b.w ∧ a.d.keys = b.d.keys ∧ a.d.seen = b.d.seen ∧ P := by
  subst h; exact ⟨rfl, rfl, rfl, rfl, rfl, rfl, rfl, rfl, rfl, rfl, rfl, rfl, rfl, rfl, rfl, rfl, rfl, rfl, hp⟩
theorem mc_eqO {a : Mc} {P : Prop} (h : a.over = true) (hp : P) : a.c.r = a.c.r ∧ a.c.pc = a.c.pc ∧ a.c.ie = a.c.ie ∧ a.c.eie = a.c.eie ∧ a.c.epc = a.c.epc ∧ a.c.tv = a.c.tv ∧ a.c.cause = a.c.cause ∧ a.c.addr = a.c.addr ∧ a.quota = a.quota ∧ a.now = a.now ∧ a.over = true ∧
    a.d.sec = a.d.sec ∧ a.d.on = a.d.on ∧ a.d.at_ = a.d.at_ ∧ a.l = a.l ∧ a.w = a.w ∧ a.d.keys = a.d.keys ∧ a.d.seen = a.d.seen ∧ P :=
  ⟨rfl, rfl, rfl, rfl, rfl, rfl, rfl, rfl, rfl, rfl, h, rfl, rfl, rfl, rfl, rfl, rfl, rfl, hp⟩
theorem mc_eqR {a : Mc} {P : Prop} (hp : P) : a.c.r = a.c.r ∧ a.c.pc = a.c.pc ∧ a.c.ie = a.c.ie ∧ a.c.eie = a.c.eie ∧ a.c.epc = a.c.epc ∧ a.c.tv = a.c.tv ∧ a.c.cause = a.c.cause ∧ a.c.addr = a.c.addr ∧ a.quota = a.quota ∧ a.now = a.now ∧ true = true ∧
    a.d.sec = a.d.sec ∧ a.d.on = a.d.on ∧ a.d.at_ = a.d.at_ ∧ a.l = a.l ∧ a.w = a.w ∧ a.d.keys = a.d.keys ∧ a.d.seen = a.d.seen ∧ P :=
  ⟨rfl, rfl, rfl, rfl, rfl, rfl, rfl, rfl, rfl, rfl, rfl, rfl, rfl, rfl, rfl, rfl, rfl, rfl, hp⟩
theorem bare0_ok (code : List Int) (c : Cpu) : McI 0 (bare0 code c) ∧ few (bare0 code c).l := by
  refine ⟨⟨Nat.le_refl _, Nat.zero_le _, Nat.zero_le _, ?_⟩, ?_⟩
  · show updOk []; unfold updOk; simp
  · show few (mem8 24 [] code); unfold few; rw [mem8_len]; decide
theorem mem8_few (code : List Int) : few (mem8 24 [] code) := by unfold few; rw [mem8_len]; decide
theorem q24 : (17 : Int) ≤ 24 ∧ (24 : Int) ≤ 256 := by decide
theorem mc_off {b : Mc} (h : b.over = false) : (⟨b.l, b.c, b.d, b.quota, b.now, false, b.w⟩ : Mc) = b := by
  cases b; simp only at h; subst h; rfl
theorem mc_eqF {b : Mc} (h : b.over = false) : b.c.r = b.c.r ∧ b.c.pc = b.c.pc ∧ b.c.ie = b.c.ie ∧ b.c.eie = b.c.eie ∧ b.c.epc = b.c.epc ∧ b.c.tv = b.c.tv ∧ b.c.cause = b.c.cause ∧ b.c.addr = b.c.addr ∧ b.quota = b.quota ∧ b.now = b.now ∧ b.over = false ∧
    b.d.sec = b.d.sec ∧ b.d.on = b.d.on ∧ b.d.at_ = b.d.at_ ∧ b.l = b.l ∧ b.w = b.w ∧ b.d.keys = b.d.keys ∧ b.d.seen = b.d.seen :=
  ⟨rfl, rfl, rfl, rfl, rfl, rfl, rfl, rfl, rfl, rfl, h, rfl, rfl, rfl, rfl, rfl, rfl, rfl⟩
end
end Go.Proofs.YtpjccdncokamlaaDoor

