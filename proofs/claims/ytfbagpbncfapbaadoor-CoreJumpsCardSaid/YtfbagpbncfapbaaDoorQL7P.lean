/- Contracts that the proofs use. -/
import Derived.Test.YtfbagpbncfapbaaDoorQL7M
set_option linter.unusedVariables false
set_option linter.unusedSimpArgs false
namespace Go.Proofs.YtfbagpbncfapbaaDoor
open Go.RowKit Go.Sy Go.Fac
section
variable {l M : List Int} {root : Int} {c : Cpu} {us : Bool} {s : Stp} {w u : Bool} {f : Nat → Int}
theorem once1 (hf : fetchS l root c.pc us = s) (h0 : s.cause = 0) (hc : isaClass s.i.op = 1) : onceC l root c us = plainC l root c us s ∧ onceS l root c us = plainS l root c us s ∧ onceL l root c us = plainL l root c us s := by
  have k : onceK s = 1 := by unfold onceK; rw [if_neg (by simp [h0]), hc]
  simp [onceC_def, onceS_def, onceL_def, hf, k]
theorem once0 (hf : fetchS l root c.pc us = s) (h0 : s.cause ≠ 0) : onceC l root c us = c ∧ onceS l root c us = s ∧ onceL l root c us = l := by
  have k : onceK s = 0 := by unfold onceK; rw [if_pos h0]
  simp [onceC_def, onceS_def, onceL_def, hf, k]
theorem once2 (hf : fetchS l root c.pc us = s) (h0 : s.cause = 0) (hc : isaClass s.i.op = 2) : onceC l root c us = c ∧ onceS l root c us = { s with cause := 6 } ∧ onceL l root c us = l := by
  have k : onceK s = 2 := by unfold onceK; rw [if_neg (by simp [h0]), hc]
  simp [onceC_def, onceS_def, onceL_def, hf, k]
theorem once4 (hf : fetchS l root c.pc us = s) (h0 : s.cause = 0) (hc : isaClass s.i.op = 4) : onceC l root c us = c ∧ onceS l root c us = { s with cause := 7 } ∧ onceL l root c us = l := by
  have k : onceK s = 4 := by unfold onceK; rw [if_neg (by simp [h0]), hc]
  simp [onceC_def, onceS_def, onceL_def, hf, k]
theorem once3u (hf : fetchS l root c.pc true = s) (h0 : s.cause = 0) (hc : isaClass s.i.op = 3) : onceC l root c true = { c with pc := w32 (c.pc + s.len), r := if s.i.op = 66 then c.r.set s.i.a.toNat 1 else c.r } ∧ onceS l root c true = s ∧ onceL l root c true = l := by
  have k : onceK s = 3 := by unfold onceK; rw [if_neg (by simp [h0]), hc]
  simp [onceC_def, onceS_def, onceL_def, hf, k]
theorem once3s (hf : fetchS l root c.pc false = s) (h0 : s.cause = 0) (hc : isaClass s.i.op = 3) : onceC l root c false = c ∧ onceS l root c false = { s with cause := 6 } ∧ onceL l root c false = l := by
  have k : onceK s = 3 := by unfold onceK; rw [if_neg (by simp [h0]), hc]
  simp [onceC_def, onceS_def, onceL_def, hf, k]
theorem plain_jump (hj : isaJumps s.i.op = true) (ok : In5.ok s.i = true) : plainC l root c us s = jumpC c s (tkB s.i c.r) ∧ plainS l root c us s = s ∧ plainL l root c us s = l := by
  have hr : 16 ≤ s.i.op ∧ s.i.op ≤ 23 := of_decide_eq_true hj
  have hm : plainM s.i = false := by unfold plainM; rw [decide_eq_false (by omega), decide_eq_false (by omega)]; rfl
  have hk : tkOk s.i = true := by unfold tkOk; rw [ok, hj]; rfl
  have h13 : ¬ s.i.op = 13 := by omega
  simp [plainC_def, plainS_def, plainL_def, hm, hk, h13]
theorem plain_keeps : (plainC l root c us s).ie = c.ie ∧ (plainC l root c us s).tv = c.tv ∧ (plainC l root c us s).epc = c.epc := by
  rw [plainC_def]; unfold jumpC
  repeat' split
  all_goals exact ⟨rfl, rfl, rfl⟩
theorem plain_cause (h0 : s.cause = 0) : (plainS l root c us s).cause = 0 ∨ (plainS l root c us s).cause = 1 := by
  rw [plainS_def]; split
  · exact .inr rfl
  · exact .inl h0
theorem plainL_len : (plainL l root c us s).length = l.length := by
  rw [plainL_def]; split
  · exact wr_len _ _ _
  · rfl
theorem onceL_len : (onceL l root c us).length = l.length := by
  rw [onceL_def]; split
  · exact plainL_len
  · rfl
theorem memL_len (h : l.length ≤ 384) : (memL l).length = 384 := by
  unfold memL memI; rw [List.length_append, List.length_take, List.length_replicate]; omega
theorem cpu_eta (c : Cpu) : (⟨c.r, c.pc, c.ie, c.eie, c.epc, c.tv, c.cause, c.addr⟩ : Cpu) = c := rfl
theorem stp_eta (s : Stp) : (⟨s.cause, s.addr, s.i, s.len⟩ : Stp) = s := rfl
theorem words_law {k a v : Int} (hM : Mapd M true true f) (hk : 0 ≤ k ∧ k ≤ 255) (ha : 0 ≤ a ∧ a < 200) (f0 : f 0 = wordW 13 4 5 k 0) (f1 : f 1 = wordW 12 6 5 k 0) (hpc : c.pc = 0) (h4 : c.r.getD 4 0 = v) (h5 : c.r.getD 5 0 = a) (h6 : 6 < c.r.length) :
    (a + k < 96 → onceS M 0 c true = ⟨0, 0, ⟨13, 4, 5, k, 0⟩, 1⟩ ∧ onceC M 0 c true = { c with pc := 1 } ∧ onceL M 0 c true = wr M (32 + (a + k)) v) ∧
    (96 ≤ a + k → onceS M 0 c true = ⟨1, a + k, ⟨13, 4, 5, k, 0⟩, 1⟩ ∧ onceC M 0 c true = c) ∧
    (2 ≤ a + k → a + k < 96 → (onceS (wr M (32 + (a + k)) v) 0 { c with pc := 1 } true).cause = 0 ∧ (onceC (wr M (32 + (a + k)) v) 0 { c with pc := 1 } true).r.getD 6 0 = v ∧ (onceC (wr M (32 + (a + k)) v) 0 { c with pc := 1 } true).pc = 2) := by
  have okS : In5.ok ⟨13, 4, 5, k, 0⟩ = true := by
    have : fitsM k 2 = true := by unfold fitsM most; simp; omega
    show wordOk 13 4 5 k 0 = true
    unfold wordOk; rw [show kC 13 = 2 by decide, this]; decide
  have okL : In5.ok ⟨12, 6, 5, k, 0⟩ = true := by
    have : fitsM k 2 = true := by unfold fitsM most; simp; omega
    show wordOk 12 6 5 k 0 = true
    unfold wordOk; rw [show kC 12 = 2 by decide, this]; decide
  obtain ⟨oS, eS⟩ := of_word okS 0
  obtain ⟨oL, eL⟩ := of_word okL 0
  have t13 : isaTwo 13 = false := by decide
  have t12 : isaTwo 12 = false := by decide
  have FS : fetchS M 0 c.pc true = ⟨0, 0, ⟨13, 4, 5, k, 0⟩, 1⟩ := by
    have e0 : f (Int.toNat 0) = wordW 13 4 5 k 0 := f0
    rw [hpc, hM.fetch1 (a := 0) (by decide) (by decide) (fun _ => rfl) (by rw [e0]; exact oS) (by rw [e0]; erw [eS]; exact t13), e0]
    erw [eS]; simp [t13]
  obtain ⟨c1, c2, c3⟩ := once1 FS rfl (show isaClass 13 = 1 by decide)
  have eA : plainA c ⟨0, 0, ⟨13, 4, 5, k, 0⟩, 1⟩ = a + k := by
    show w32 (c.r.getD (Int.toNat 5) 0 + w32 k) = a + k
    have : c.r.getD (Int.toNat 5) 0 = a := h5
    rw [this]; show IntKind.u32.wrap (a + IntKind.u32.wrap k) = _
    rw [IntKind.wrap_u32, IntKind.wrap_u32]; omega
  obtain ⟨w1, w2⟩ := hM.walk (a := a + k) (by omega) true true
  have m1 : mOk true true (a + k) true true = decide (a + k < 96) := by
    unfold mOk
    by_cases h : a + k < 96
    · rw [decide_eq_true (by omega : a + k < 4096), decide_eq_true (by omega : (a + k) % 2048 < 192), decide_eq_true (by omega : (a + k) % 2048 < 96), decide_eq_true h]; rfl
    · rw [decide_eq_false (by omega : ¬ (a + k) % 2048 < 96), decide_eq_false h]; simp
  have hok : plainOk M 0 c true ⟨0, 0, ⟨13, 4, 5, k, 0⟩, 1⟩ = decide (a + k < 96) := by
    unfold plainOk; rw [eA]; show wkOk M 0 (a + k) true true = _; rw [w1, m1]
  have hpm : plainM ⟨13, 4, 5, k, 0⟩ = true := rfl
  have ep : w32 (c.pc + 1) = 1 := by rw [hpc]; decide
  refine ⟨fun h => ?_, fun h => ?_, fun h2 h => ?_⟩
  · have hat : plainAt M 0 c true ⟨0, 0, ⟨13, 4, 5, k, 0⟩, 1⟩ = 32 + (a + k) := by
      unfold plainAt; rw [eA]; show wkA M 0 (a + k) true true = _
      rw [w2 (by rw [m1]; exact decide_eq_true h)]; omega
    have hr : rg c.r 4 = v := h4
    rw [c1, c2, c3, plainC_def, plainS_def, plainL_def]
    simp [hpm, hok, h, hat, hr, ep]
  · have hn : ¬ a + k < 96 := by omega
    rw [c1, c2, plainC_def, plainS_def]
    simp [hpm, hok, hn, eA]
  · have hM' := hM.wr (k := a + k) (by omega) (by omega) v
    have FL : fetchS (wr M (32 + (a + k)) v) 0 (Cpu.pc { c with pc := 1 }) true = ⟨0, 0, ⟨12, 6, 5, k, 0⟩, 1⟩ := by
      have e1 : (if Int.toNat 1 = (a + k).toNat then v else f (Int.toNat 1)) = wordW 12 6 5 k 0 := by
        rw [if_neg (by show ¬ 1 = (a + k).toNat; omega)]; exact f1
      show fetchS _ 0 1 true = _
      rw [hM'.fetch1 (a := 1) (by decide) (by decide) (fun _ => rfl) (by rw [e1]; exact oL) (by rw [e1]; erw [eL]; exact t12), e1]
      erw [eL]; simp [t12]
    obtain ⟨d1, d2, d3⟩ := once1 FL rfl (show isaClass 12 = 1 by decide)
    have eA' : plainA { c with pc := 1 } ⟨0, 0, ⟨12, 6, 5, k, 0⟩, 1⟩ = a + k := eA
    obtain ⟨x1, x2⟩ := hM'.walk (a := a + k) (by omega) false true
    have m2 : mOk true true (a + k) false true = true := by
      unfold mOk
      rw [decide_eq_true (by omega : a + k < 4096), decide_eq_true (by omega : (a + k) % 2048 < 192)]; rfl
    have hok' : plainOk (wr M (32 + (a + k)) v) 0 { c with pc := 1 } true ⟨0, 0, ⟨12, 6, 5, k, 0⟩, 1⟩ = true := by
      unfold plainOk; rw [eA']; show wkOk _ 0 (a + k) false true = _; rw [x1, m2]
    have hat' : plainAt (wr M (32 + (a + k)) v) 0 { c with pc := 1 } true ⟨0, 0, ⟨12, 6, 5, k, 0⟩, 1⟩ = 32 + (a + k) := by
      unfold plainAt; rw [eA']; show wkA _ 0 (a + k) false true = _
      rw [x2 m2]; omega
    have hv : rd (wr M (32 + (a + k)) v) (32 + (a + k)) = v := by
      rw [hM'.rdhi (by omega) (by omega)]; simp
    have hpm' : plainM ⟨12, 6, 5, k, 0⟩ = true := rfl
    have t6 : Int.toNat 6 = 6 := rfl
    have e2 : w32 2 = 2 := by decide
    rw [d1, d2, plainC_def, plainS_def]
    simp [hpm', hok', hat', hv, t6, h6, e2]
theorem user_fetch {op : Int} (hw : wordOk op 0 0 0 0 = true) (hM : Mapd M w true f) (f0 : f 0 = wordW op 0 0 0 0) (f1 : f 1 = 5) :
    fetchS M 0 0 us = ⟨0, 0, ⟨op, 0, 0, 0, if isaTwo op = true then 5 else 0⟩, if isaTwo op = true then 2 else 1⟩ := by
  obtain ⟨o1, o2⟩ := of_word (i := ⟨op, 0, 0, 0, 0⟩) hw 0
  have e0 : f (Int.toNat 0) = wordW op 0 0 0 0 := f0
  have o1 : ofOk (f (Int.toNat 0)) = true := by rw [e0]; exact o1
  have o2 : ofF (f (Int.toNat 0)) 0 = ⟨op, 0, 0, 0, 0⟩ := by rw [e0]; erw [o2]; simp
  cases ht : isaTwo op
  · rw [hM.fetch1 (a := 0) (by decide) (by decide) (fun _ => rfl) o1 (by rw [o2]; exact ht), o2]; simp
  · rw [hM.fetch2 (a := 0) (by decide) (by decide) (fun _ => rfl) o1 (by rw [o2]; exact ht), o2]
    have : f (Int.toNat 0 + 1) = 5 := f1
    rw [this]; simp
theorem class_two {op : Int} (h : isaClass op = 3) : isaTwo op = false := by
  have : 64 ≤ op ∧ op ≤ 67 := by
    unfold isaClass at h
    repeat' split at h
    all_goals first | omega | cases h
  unfold isaTwo
  simp; omega
theorem class_two4 {op : Int} (h : isaClass op = 4) : isaTwo op = true := by
  have : op = 96 := by
    unfold isaClass at h
    repeat' split at h
    all_goals first | omega | cases h
  subst this; decide
end
end Go.Proofs.YtfbagpbncfapbaaDoor

