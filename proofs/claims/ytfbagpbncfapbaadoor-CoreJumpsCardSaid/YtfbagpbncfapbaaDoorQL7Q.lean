/- Contracts that the proofs use. -/
import Derived.Test.YtfbagpbncfapbaaDoorQL7P
set_option linter.unusedVariables false
set_option linter.unusedSimpArgs false
namespace Go.Proofs.YtfbagpbncfapbaaDoor
open Go.RowKit Go.Sy Go.Fac
theorem jumps_law {o a k to : Int} (r : List Int) (ho : 16 ≤ o ∧ o ≤ 23) (ok : wordOk o a 0 k 0 = true) :
    onceS (memL (mapL [wordW o a 0 k 0, to, 0] true true)) 0 ⟨r, 0, false, false, 0, 0, 0, 0⟩ true = ⟨0, 0, ⟨o, a, 0, k, if isaTwo o = true then to else 0⟩, if isaTwo o = true then 2 else 1⟩ ∧
    onceC (memL (mapL [wordW o a 0 k 0, to, 0] true true)) 0 ⟨r, 0, false, false, 0, 0, 0, 0⟩ true =
      jumpC ⟨r, 0, false, false, 0, 0, 0, 0⟩ ⟨0, 0, ⟨o, a, 0, k, if isaTwo o = true then to else 0⟩, if isaTwo o = true then 2 else 1⟩ (if o = 17 ∨ o = 20 then decide (r.getD a.toNat 0 = 0) else if o = 18 ∨ o = 21 then !decide (r.getD a.toNat 0 = 0) else true) := by
  generalize hL : [wordW o a 0 k 0, to, 0] = L
  have f0 : L.getD (Int.toNat 0) 0 = wordW o a 0 k 0 := by rw [← hL]; rfl
  have f1 : L.getD (Int.toNat 0 + 1) 0 = to := by rw [← hL]; rfl
  have hM := mapd L true true
  rw [memL_of hM.len]
  generalize mapL L true true = M at hM ⊢
  obtain ⟨o1, o2⟩ := of_word (i := ⟨o, a, 0, k, 0⟩) ok 0
  have o1 : ofOk (L.getD (Int.toNat 0) 0) = true := by rw [f0]; exact o1
  have o2 : ofF (L.getD (Int.toNat 0) 0) 0 = ⟨o, a, 0, k, 0⟩ := by rw [f0]; erw [o2]; simp
  have F : fetchS M 0 (Cpu.pc ⟨r, 0, false, false, 0, 0, 0, 0⟩) true = ⟨0, 0, ⟨o, a, 0, k, if isaTwo o = true then to else 0⟩, if isaTwo o = true then 2 else 1⟩ := by
    show fetchS M 0 0 true = _
    cases ht : isaTwo o
    · rw [hM.fetch1 (a := 0) (by decide) (by decide) (fun _ => rfl) o1 (by rw [o2]; exact ht), o2]; simp
    · rw [hM.fetch2 (a := 0) (by decide) (by decide) (fun _ => rfl) o1 (by rw [o2]; exact ht), o2, f1]; simp
  have hc : isaClass o = 1 := by unfold isaClass; rw [if_pos (by omega)]
  have hj : isaJumps o = true := by unfold isaJumps; exact decide_eq_true ho
  obtain ⟨c1, c2, c3⟩ := once1 F rfl hc
  have ok2 : In5.ok ⟨o, a, 0, k, if isaTwo o = true then to else 0⟩ = true := by
    have := fetch_ok (l := M) (root := 0) (pc := 0) (us := true) (by show (fetchS M 0 (Cpu.pc ⟨r, 0, false, false, 0, 0, 0, 0⟩) true).cause = 0; rw [F])
    have F : fetchS M 0 0 true = _ := F
    rw [F] at this; exact this
  obtain ⟨p1, p2, p3⟩ := plain_jump (l := M) (root := 0) (c := ⟨r, 0, false, false, 0, 0, 0, 0⟩) (us := true) (s := ⟨0, 0, ⟨o, a, 0, k, if isaTwo o = true then to else 0⟩, if isaTwo o = true then 2 else 1⟩) hj ok2
  rw [c1, c2, p1, p2]
  refine ⟨rfl, ?_⟩
  have ht : tkOk ⟨o, a, 0, k, if isaTwo o = true then to else 0⟩ = true := by unfold tkOk; rw [ok2]; exact hj
  have hb : tkB ⟨o, a, 0, k, if isaTwo o = true then to else 0⟩ r = (if o = 17 ∨ o = 20 then decide (r.getD a.toNat 0 = 0) else if o = 18 ∨ o = 21 then !decide (r.getD a.toNat 0 = 0) else true) := by
    unfold tkB; rw [if_neg (by rw [ht]; simp)]; rfl
  rw [← hb]
def opJ (i : Nat) : Int := hide (16 + (i : Int))
def aJ (i : Nat) : Int := hide (if opJ i = 16 ∨ opJ i = 19 ∨ opJ i = 22 then 0 else 3)
def kJ (c : Int) (i : Nat) : Int := hide (if opJ i ≤ 18 then c else 0)
def mJ (to c : Int) (i : Nat) : List Int := hide (memL (mapL [wordW (opJ i) (aJ i) 0 (kJ c i) 0, to, 0] true true))
def p0J (r : List Int) : Cpu := ⟨r, 0, false, false, 0, 0, 0, 0⟩
def cJ (r : List Int) (to c : Int) (i : Nat) : Cpu := hide (onceC (mJ to c i) 0 (p0J r) true)
def sJ (r : List Int) (to c : Int) (i : Nat) : Stp := hide (onceS (mJ to c i) 0 (p0J r) true)
def tkJ (r : List Int) (i : Nat) : Bool := hide (if opJ i = 17 ∨ opJ i = 20 then decide (r.getD 3 0 = 0) else if opJ i = 18 ∨ opJ i = 21 then !decide (r.getD 3 0 = 0) else true)
def w1J (to c : Int) (i : Nat) : Int := hide (if opJ i ≤ 18 then IntKind.u32.wrap (dispM c) else to)
def wJ (r : List Int) (to c : Int) (i : Nat) : Int := hide (if tkJ r i = false then (sJ r to c i).len else if opJ i = 23 then r.getD 3 0 else w1J to c i)
def lkJ (r : List Int) (i : Nat) : Int := hide (if opJ i = 22 then 2 else r.getD 15 0)
section
variable {r : List Int} {to c : Int} {i : Nat}
theorem opJ_is : opJ i = 16 + (i : Int) := hide_eq _
theorem opJ_in (h : i < 8) : 16 ≤ opJ i ∧ opJ i ≤ 23 := by rw [opJ_is]; omega
theorem aJ_is : aJ i = if opJ i = 16 ∨ opJ i = 19 ∨ opJ i = 22 then 0 else 3 := hide_eq _
theorem kJ_is : kJ c i = if opJ i ≤ 18 then c else 0 := hide_eq _
theorem okJ (h : i < 8) (h0 : 0 ≤ c) (h1 : c ≤ 255) : wordOk (opJ i) (aJ i) 0 (kJ c i) 0 = true := by
  have fc : fitsM c 2 = true := by unfold fitsM most; simp; omega
  have ho := opJ_in h
  rw [aJ_is, kJ_is]
  generalize opJ i = o at *
  have hcs : o = 16 ∨ o = 17 ∨ o = 18 ∨ o = 19 ∨ o = 20 ∨ o = 21 ∨ o = 22 ∨ o = 23 := by omega
  rcases hcs with rfl | rfl | rfl | rfl | rfl | rfl | rfl | rfl
  · show wordOk 16 0 0 c 0 = true; unfold wordOk; rw [show kC 16 = 2 by decide, fc]; decide
  · show wordOk 17 3 0 c 0 = true; unfold wordOk; rw [show kC 17 = 2 by decide, fc]; decide
  · show wordOk 18 3 0 c 0 = true; unfold wordOk; rw [show kC 18 = 2 by decide, fc]; decide
  · show wordOk 19 0 0 0 0 = true; decide
  · show wordOk 20 3 0 0 0 = true; decide
  · show wordOk 21 3 0 0 0 = true; decide
  · show wordOk 22 0 0 0 0 = true; decide
  · show wordOk 23 3 0 0 0 = true; decide
theorem tkJ_is : tkJ r i = if opJ i = 17 ∨ opJ i = 20 then decide (r.getD 3 0 = 0) else if opJ i = 18 ∨ opJ i = 21 then !decide (r.getD 3 0 = 0) else true := hide_eq _
theorem tkJ_word : (!decide (opJ i = 17) && !decide (opJ i = 20) && !decide (opJ i = 18) && !decide (opJ i = 21) || (decide (opJ i = 17) || decide (opJ i = 20)) == decide (r.getD 3 0 = 0)) = tkJ r i := by
  rw [tkJ_is]
  generalize opJ i = o
  by_cases h1 : o = 17 <;> by_cases h2 : o = 20 <;> by_cases h3 : o = 18 <;> by_cases h4 : o = 21 <;> simp [h1, h2, h3, h4]
theorem w1J_is : w1J to c i = if opJ i ≤ 18 then IntKind.u32.wrap (dispM c) else to := hide_eq _
theorem wJ_is : wJ r to c i = if tkJ r i = false then (sJ r to c i).len else if opJ i = 23 then r.getD 3 0 else w1J to c i := hide_eq _
theorem lkJ_is : lkJ r i = if opJ i = 22 then 2 else r.getD 15 0 := hide_eq _
theorem finJ (h : i < 8) (h0 : 0 ≤ c) (h1 : c ≤ 255) (hr : r.length = 16) : (sJ r to c i).cause = 0 ∧ (cJ r to c i).pc = wJ r to c i ∧ (cJ r to c i).r.getD 15 0 = lkJ r i ∧ (cJ r to c i).r.getD 3 0 = r.getD 3 0 := by
  have ho := opJ_in h
  obtain ⟨j1, j2⟩ := jumps_law (o := opJ i) (a := aJ i) (k := kJ c i) (to := to) r ho (okJ h h0 h1)
  have eS : sJ r to c i = onceS (mJ to c i) 0 (p0J r) true := hide_eq _
  have eC : cJ r to c i = onceC (mJ to c i) 0 (p0J r) true := hide_eq _
  have eM : mJ to c i = memL (mapL [wordW (opJ i) (aJ i) 0 (kJ c i) 0, to, 0] true true) := hide_eq _
  rw [← eM] at j1 j2
  have eS := eS.trans j1
  have eC := eC.trans j2
  rw [wJ_is, w1J_is, lkJ_is, tkJ_is, eS, eC]
  have w0 : ∀ x, IntKind.u32.wrap (IntKind.u32.wrap x) = IntKind.u32.wrap x := fun x => by rw [IntKind.wrap_u32, IntKind.wrap_u32]; omega
  have v1 : IntKind.u32.wrap 1 = 1 := by decide
  have v2 : IntKind.u32.wrap 2 = 2 := by decide
  have t3 : Int.toNat 3 = 3 := rfl
  have l3 : ∀ x : Int, (r.set 15 x)[3]?.getD 0 = r[3]?.getD 0 := fun x => by rw [List.getElem?_set_ne (by decide)]
  have l15 : ∀ x : Int, (r.set 15 x)[15]?.getD 0 = x := fun x => by rw [List.getElem?_set_self (by omega)]; rfl
  rw [aJ_is, kJ_is]
  clear j1 j2 eS eC eM
  generalize opJ i = o at *
  have hcs : o = 16 ∨ o = 17 ∨ o = 18 ∨ o = 19 ∨ o = 20 ∨ o = 21 ∨ o = 22 ∨ o = 23 := by omega
  have tw : isaTwo 16 = false ∧ isaTwo 17 = false ∧ isaTwo 18 = false ∧ isaTwo 19 = true ∧ isaTwo 20 = true ∧ isaTwo 21 = true ∧ isaTwo 22 = true ∧ isaTwo 23 = false := by decide
  obtain ⟨q1, q2, q3, q4, q5, q6, q7, q8⟩ := tw
  rcases hcs with rfl | rfl | rfl | rfl | rfl | rfl | rfl | rfl
  all_goals by_cases hz : r[3]?.getD 0 = 0 <;> simp [jumpC, w32, w0, v1, v2, rg, t3, l3, l15, q1, q2, q3, q4, q5, q6, q7, q8, hz]
end
end Go.Proofs.YtfbagpbncfapbaaDoor

