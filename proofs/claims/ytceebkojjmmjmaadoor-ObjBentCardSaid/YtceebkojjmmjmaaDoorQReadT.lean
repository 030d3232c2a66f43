/- Contracts that the proofs use. -/
import Derived.Test.YtceebkojjmmjmaaDoorQReadS
set_option linter.unusedVariables false
set_option linter.unusedSimpArgs false
namespace Go.Proofs.YtceebkojjmmjmaaDoor
open Go.RowKit Go.Sy Go.Fac
def okN (n : Int) : Bool := decide (n = 101) || decide (n = 102) || decide (n = 103) || decide (n = 104) || decide (n = 105) || decide (n = 106) || decide (n = 107) || decide (n = 109)
def okC : FErr → Bool
  | .fine => true
  | .bare n => okN n
  | .placed n _ => okN n
theorem tkE_c {n : Int} {l : List Int} {e : FErr} (h : okC e = true) : okC (tkE n l e) = true := by
  rw [tkE_is]; split
  · exact h
  · split
    · rfl
    · exact h
theorem upE_c {t : Int} {x : FErr} {l : List Int} {e : FErr} (hx : okC x = true) (h : okC e = true) : okC (upE t x l e) = true := by
  rw [upE_is]; split
  · exact hx
  · exact tkE_c h
theorem c103 : okC (.bare 103) = true := rfl
theorem rcE_c {l : List Int} {e : FErr} (h : okC e = true) : okC (rcE l e) = true := by
  rw [rcE_is]; exact tkE_c (upE_c c103 (upE_c c103 (upE_c c103 h)))
theorem smE_c {l : List Int} {e : FErr} (h : okC e = true) : okC (smE l e) = true := by
  rw [smE_is]; exact tkE_c (upE_c c103 (upE_c c103 (upE_c c103 (upE_c c103 h))))
theorem it_c {α : Type} {fL : List Int → FErr → List Int} {fE : List Int → FErr → FErr} {fX : List Int → FErr → α} (F : ∀ l e, okC e = true → okC (fE l e) = true) {l : List Int} {e : FErr} (h : okC e = true) : ∀ i, okC (itS fL fE fX l e i).2.1 = true
  | 0 => by rw [itS_zero]; exact h
  | i + 1 => by
    rw [itS_succ]; split
    · exact it_c F h i
    · exact F _ _ (it_c F h i)
theorem hd_c {l : List Int} {e : FErr} (h : okC e = true) : ∀ i, okC (hdS l e i).2.1 = true
  | 0 => by rw [hdS_zero]; exact h
  | i + 1 => by rw [hdS_succ]; exact upE_c rfl (hd_c h i)
theorem firstE_c {f : Nat → FErr} (h : ∀ i, okC (f i) = true) : ∀ n, okC (firstE f n) = true
  | 0 => rfl
  | n + 1 => by
    rw [firstE]; split
    · exact firstE_c h n
    · split
      · have := h n
        unfold placeE
        split
        · rename_i k hk; rw [hk] at this; exact this
        · rfl
      · rfl
theorem wordE_c (c m : List Int) (i : Int) : okC (wordE c m i) = true := by
  unfold wordE
  repeat' split
  all_goals rfl
theorem symE_c (d c m : List Int) (nm : ByteArray) (a v : Int) (g : Bool) (mp : List (ByteArray × Int)) : okC (symE d c m nm a v g mp) = true := by
  unfold symE
  repeat' split
  all_goals rfl
theorem relocE_c (n : Nat) (a k s x last words kind : Int) : okC (relocE n a k s x last words kind) = true := by
  unfold relocE; split <;> rfl
theorem drE_c (d : List Int) (dr : List Rel) (sy : List Sm) (i : Nat) : okC (drE d dr sy i) = true := by
  unfold drE; simp only; split
  · rfl
  · exact relocE_c _ _ _ _ _ _ _ _
theorem crE_c (c m : List Int) (cr : List Rel) (sy : List Sm) (i : Nat) : okC (crE c m cr sy i) = true := by
  unfold crE; simp only; split
  · rfl
  · exact relocE_c _ _ _ _ _ _ _ _
theorem needE_c (c m : List Int) (cr : List Rel) (i : Nat) : okC (needE c m cr i) = true := by
  unfold needE; split <;> rfl
theorem validE_c (d c m : List Int) (dr cr : List Rel) (sy : List Sm) : okC (validE d c m dr cr sy) = true := by
  unfold validE
  repeat' split
  · rfl
  · rfl
  · exact firstE_c (fun i => wordE_c c m i) _
  · exact firstE_c (fun i => symE_c _ _ _ _ _ _ _ _) _
  · unfold relocsE
    repeat' split
    · exact firstE_c (drE_c _ _ _) _
    · exact firstE_c (crE_c _ _ _ _) _
    · exact firstE_c (needE_c _ _ _) _
theorem readE_c (b : List Int) : okC (readE b) = true := by
  have e0 : okC (a0E b) = true := by
    have : a0E b = (hdS (w4L b .fine) (w4E b .fine) 5).2.1 := hide_eq _
    rw [this]; exact hd_c (tkE_c rfl) 5
  have e1 : okC (a1E b) = true := by
    have : a1E b = (wsS (a0L b) (a0E b) (nN b 0).toNat).2.1 := hide_eq _
    rw [this]; exact it_c (fun l e h => tkE_c h) e0 _
  have e2 : okC (a2E b) = true := by
    have : a2E b = (wsS (a1L b) (a1E b) (nN b 1).toNat).2.1 := hide_eq _
    rw [this]; exact it_c (fun l e h => tkE_c h) e1 _
  have e3 : okC (a3E b) = true := by
    have : a3E b = tkE (nN b 1) (a2L b) (a2E b) := hide_eq _
    rw [this]; exact tkE_c e2
  have e4 : okC (a4E b) = true := by
    have : a4E b = (rlS (a3L b) (a3E b) (nN b 2).toNat).2.1 := hide_eq _
    rw [this]; exact it_c (fun l e h => rcE_c h) e3 _
  have e5 : okC (a5E b) = true := by
    have : a5E b = (rlS (a4L b) (a4E b) (nN b 3).toNat).2.1 := hide_eq _
    rw [this]; exact it_c (fun l e h => rcE_c h) e4 _
  have e6 : okC (a6E b) = true := by
    have : a6E b = (syS (a5L b) (a5E b) (nN b 4).toNat).2.1 := hide_eq _
    rw [this]; exact it_c (fun l e h => smE_c h) e5 _
  have f1 : okC (f1E b) = true := by
    rw [f1E_is]; repeat' split
    · exact e6
    · rfl
    · rfl
  have f2 : okC (f2E b) = true := by
    rw [f2E_is]; split
    · exact f1
    · exact validE_c _ _ _ _ _ _
  rw [readE_is]; repeat' split
  · rfl
  · rfl
  · exact f2
theorem code_named {e : FErr} (h : okC e = true) (he : e.isErr = true) : (decide (fcode e = 104) || decide (fcode e = 109) || decide (fcode e = 105) || decide (fcode e = 103) || decide (fcode e = 106) || decide (fcode e = 102) || decide (fcode e = 107) || decide (fcode e = 101)) = true := by
  have key : ∀ n, okN n = true → (decide (senN (.bare n) = 104) || decide (senN (.bare n) = 109) || decide (senN (.bare n) = 105) || decide (senN (.bare n) = 103) || decide (senN (.bare n) = 106) || decide (senN (.bare n) = 102) || decide (senN (.bare n) = 107) || decide (senN (.bare n) = 101)) = true := by
    intro n hn
    unfold okN at hn
    simp only [Bool.or_eq_true, decide_eq_true_eq] at hn
    rcases hn with ((((((rfl | rfl) | rfl) | rfl) | rfl) | rfl) | rfl) | rfl <;> decide
  cases e with
  | fine => cases he
  | bare n => exact key n h
  | placed n p => exact key n h
theorem xor_all : ∀ x : Fin 256, ∀ j : Fin 8, (bits .xor .u8 (x.val : Int) (2 ^ j.val) ≠ (x.val : Int)) ∧ 0 ≤ bits .xor .u8 (x.val : Int) (2 ^ j.val) ∧ bits .xor .u8 (x.val : Int) (2 ^ j.val) < 256 := by decide +kernel
theorem xor_bent {x : Int} (hx : 0 ≤ x ∧ x < 256) {n : Int} : bits .xor .u8 x (IntKind.u8.wrap (1 * 2 ^ min (IntKind.u64.wrap (n % 8)).toNat IntKind.u8.bits)) ≠ x ∧ 0 ≤ bits .xor .u8 x (IntKind.u8.wrap (1 * 2 ^ min (IntKind.u64.wrap (n % 8)).toNat IntKind.u8.bits)) ∧ bits .xor .u8 x (IntKind.u8.wrap (1 * 2 ^ min (IntKind.u64.wrap (n % 8)).toNat IntKind.u8.bits)) < 256 := by
  have hb : IntKind.u8.bits = 8 := rfl
  have h1 : IntKind.u64.wrap (n % 8) = n % 8 := by simp [IntKind.wrap, IntKind.bits, IntKind.signed]; omega
  rw [hb, h1]
  have hj : (n % 8).toNat < 8 := by omega
  rw [show min (n % 8).toNat 8 = (n % 8).toNat by omega, Int.one_mul]
  have h := xor_all ⟨x.toNat, by omega⟩ ⟨(n % 8).toNat, hj⟩
  simp only [show ((x.toNat : Nat) : Int) = x by omega] at h
  have hw : ∀ j, j < 8 → IntKind.u8.wrap ((2 : Int) ^ j) = 2 ^ j := by decide
  rw [hw _ hj]
  exact h
theorem bent_byt {X : List Int} (h : byt X) {k : Nat} (hk : k < X.length) (n : Int) : byt (X.set k (bits .xor .u8 (X.getD k 0) (IntKind.u8.wrap (1 * 2 ^ min (IntKind.u64.wrap (n % 8)).toNat IntKind.u8.bits)))) ∧
    X.set k (bits .xor .u8 (X.getD k 0) (IntKind.u8.wrap (1 * 2 ^ min (IntKind.u64.wrap (n % 8)).toNat IntKind.u8.bits))) ≠ X := by
  have hx := h (X.getD k 0) (by rw [List.getD_eq_getElem?_getD, List.getElem?_eq_getElem hk]; exact List.getElem_mem hk)
  obtain ⟨x1, x2, x3⟩ := xor_bent hx (n := n)
  refine ⟨fun y hy => ?_, fun hc => ?_⟩
  · rcases List.mem_or_eq_of_mem_set hy with hy | rfl
    · exact h y hy
    · exact ⟨x2, x3⟩
  · have := congrArg (fun l : List Int => l.getD k 0) hc
    have this : (X.set k _).getD k 0 = X.getD k 0 := this
    rw [List.getD_eq_getElem?_getD, List.getElem?_set_self hk] at this
    exact x1 this
end Go.Proofs.YtceebkojjmmjmaaDoor

