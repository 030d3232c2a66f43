/- Contracts. -/
import Derived.Test.YtpjccdncokamlaaGreatDoorQBareP
set_option linter.unusedVariables false
set_option linter.unusedSimpArgs false
namespace Go.Fac
open Go.RowKit Go.Sy
def diesM0 (b : Mc) (k : Int) : Mc := { b with over := true, d := dEnd b.d 4 (w32 k), now := IntKind.i64.wrap (b.now + 1) }
def diesM (b : Mc) (k : Int) : Mc := hide (diesM0 b k)
theorem diesM_def (b : Mc) (k : Int) : diesM b k = diesM0 b k := hide_eq _
def privC0 (i : In5) (c : Cpu) (d : Dv) (now : Int) : Cpu := if i.op = 32 then c else if i.op = 34 then returnC c else doC1 i c d now
def privC (i : In5) (c : Cpu) (d : Dv) (now : Int) : Cpu := hide (privC0 i c d now)
theorem privC_def (i : In5) (c : Cpu) (d : Dv) (now : Int) : privC i c d now = privC0 i c d now := hide_eq _
def goY0 (b : Mc) : Mc := let x := intrM false b; { x with l := onceL x.l 0 x.c false, c := onceC x.l 0 x.c false }
def goY (b : Mc) : Mc := hide (goY0 b)
theorem goY_def (b : Mc) : goY b = goY0 b := hide_eq _
def goS (b : Mc) : Stp := hide (onceS (intrM false b).l 0 (intrM false b).c false)
theorem goS_def (b : Mc) : goS b = onceS (intrM false b).l 0 (intrM false b).c false := hide_eq _
def pvY0 (b : Mc) : Mc := { goY b with c := privC (goS b).i (goY b).c (goY b).d (goY b).now, d := doD false (goS b).i (goY b).c (goY b).d (goY b).now }
def pvY (b : Mc) : Mc := hide (pvY0 b)
theorem pvY_def (b : Mc) : pvY b = pvY0 b := hide_eq _
def upY0 (b : Mc) : Mc := if (goS b).i.op = 41 then putM (pvY b) (rg (pvY b).c.r (goS b).i.a) (rg (pvY b).c.r (goS b).i.b) else if (goS b).i.op = 42 then syncM (pvY b) else pvY b
def upY (b : Mc) : Mc := hide (upY0 b)
theorem upY_def (b : Mc) : upY b = upY0 b := hide_eq _
theorem fetch_why (l : List Int) (root pc : Int) (us : Bool) : (fetchS l root pc us).cause = 0 ∨ (fetchS l root pc us).cause = 1 ∨ ((fetchS l root pc us).cause = 4 ∧ (fetchS l root pc us).addr = 0) := by
  rw [fetchS_def]; repeat' split
  all_goals simp
theorem once_why (l : List Int) (root : Int) (c : Cpu) : (onceS l root c false).cause = 0 ∨ (onceS l root c false).cause = 1 ∨ ((onceS l root c false).cause = 4 ∧ (onceS l root c false).addr = 0) ∨ (onceS l root c false).cause = 6 ∨ (onceS l root c false).cause = 7 := by
  have w := fetch_why l root c.pc false
  rw [onceS_def]; simp only
  repeat' split
  · rcases w with h | h | h
    · exact .inl h
    · exact .inr (.inl h)
    · exact .inr (.inr (.inl h))
  · rw [plainS_def]; split
    · simp
    · rcases w with h | h | h
      · exact .inl h
      · exact .inr (.inl h)
      · exact .inr (.inr (.inl h))
  · simp
  · simp
  · rename_i h; cases h
  · simp
theorem once_keeps {l : List Int} {root : Int} {c : Cpu} (h : (onceS l root c false).cause ≠ 0) : onceC l root c false = c := by
  rw [onceS_def] at h; rw [onceC_def]
  simp only at h ⊢
  by_cases k0 : onceK (fetchS l root c.pc false) = 0
  · rw [if_pos k0]
  · rw [if_neg k0]
    rw [if_neg k0] at h
    by_cases k1 : onceK (fetchS l root c.pc false) = 1
    · rw [if_pos k1]
      rw [if_pos k1, plainS_def] at h
      rw [plainC_def]
      by_cases hp : plainM (fetchS l root c.pc false).i = true ∧ plainOk l root c false (fetchS l root c.pc false) = false
      · rw [if_pos hp.1, if_pos hp.2]
      · rw [if_neg hp] at h
        exfalso
        have : (fetchS l root c.pc false).cause = 0 := by
          have k0 := k0
          unfold onceK at k0
          by_cases e : (fetchS l root c.pc false).cause = 0
          · exact e
          · rw [if_pos e] at k0; simp at k0
        exact h this
    · rw [if_neg k1, if_neg (by simp)]
theorem go_c {b : Mc} (hc : (goS b).cause ≠ 0) : goY b = { intrM false b with l := onceL (intrM false b).l 0 (intrM false b).c false } := by
  rw [goS_def] at hc
  rw [goY_def]; unfold goY0; simp only; rw [once_keeps hc]
theorem enter_in {b : Mc} {k a : Int} (e : enterB (goY b).c = true) (hs : stepN false b = enterM (goY b) k a) : ({ goY b with c := enterC (goY b).c k a } : Mc) = stepN false b := by
  rw [hs, enterM_def]; unfold enterM0; rw [if_pos e]
theorem enter_out {b : Mc} {k a : Int} (ho : b.over = false) (e : enterB (goY b).c = false) (hs : stepN false b = enterM (goY b) k a) : diesM (goY b) k = stepM false b := by
  rw [stepM_N false ho, hs, diesM_def, enterM_def]; unfold diesM0 enterM0; rw [if_neg (by rw [e]; simp)]
theorem once_is (b : Mc) : (goS b).cause = 0 ∨ (goS b).cause = 1 ∨ ((goS b).cause = 4 ∧ (goS b).addr = 0) ∨ (goS b).cause = 6 ∨ (goS b).cause = 7 := by
  rw [goS_def]; exact once_why _ _ _
section
variable {b : Mc} (h : (intrM false b).over = false)
include h
theorem goY_now : (goY b).over = false ∧ (goY b).now = b.now ∧ (goY b).quota = (intrM false b).quota := by
  rw [goY_def]; exact ⟨h, intr_now false b, rfl⟩
theorem sN_go : stepN false b = goM false (intrM false b) := by rw [stepN_def]; unfold stepN0; rw [if_neg (by rw [h]; simp)]
theorem sN_0 (hc : (goS b).cause = 0) : goY b = stepN false b := by
  rw [sN_go h, goM_def]; unfold goM0
  rw [goS_def] at hc
  rw [goY_def]; unfold goY0
  simp only [hc, if_pos]
theorem sN_6 (hc : (goS b).cause = 6) : stepN false b = supM false (goY b) (goS b) := by
  rw [go_c (by rw [hc]; decide), sN_go h, goM_def]; unfold goM0
  rw [goS_def] at hc ⊢
  simp only
  rw [if_neg (by rw [hc]; decide), if_pos hc]
theorem sN_7 (hc : (goS b).cause = 7) : stepN false b = enterM (goY b) 4 0 := by
  rw [go_c (by rw [hc]; decide), sN_go h, goM_def]; unfold goM0
  rw [goS_def] at hc
  simp only
  rw [if_neg (by rw [hc]; decide), if_neg (by rw [hc]; decide), if_pos hc]
theorem sN_e (h0 : (goS b).cause ≠ 0) (h6 : (goS b).cause ≠ 6) (h7 : (goS b).cause ≠ 7) : stepN false b = enterM (goY b) (goS b).cause (goS b).addr := by
  rw [go_c h0, sN_go h, goM_def]; unfold goM0
  rw [goS_def] at h0 h6 h7 ⊢
  simp only
  rw [if_neg h0, if_neg h6, if_neg h7]
theorem sN_1 (hc : (goS b).cause = 1) : stepN false b = enterM (goY b) (goS b).cause (goS b).addr := sN_e h (by omega) (by omega) (by omega)
theorem sN_4 (hc : (goS b).cause = 4) : stepN false b = enterM (goY b) 4 0 := by
  have := once_is b
  have := sN_e h (by omega) (by omega) (by omega)
  rw [this, hc, show (goS b).addr = 0 by omega]
end
theorem once_len (l : List Int) (root : Int) (c : Cpu) (us : Bool) : (onceL l root c us).length = l.length := by
  rw [onceL_def]; split
  · rw [plainL_def]; split
    · rw [wr_len]
    · rfl
  · rfl
theorem once_i (l : List Int) (root : Int) (c : Cpu) (us : Bool) : (onceS l root c us).i = (fetchS l root c.pc us).i := by
  rw [onceS_def]; simp only
  repeat' split
  · rfl
  · rw [plainS_def]; split <;> rfl
  all_goals rfl
theorem go_ok {b : Mc} (h : (goS b).cause = 6) : In5.ok (goS b).i = true := by
  rw [goS_def] at h ⊢
  rw [once_i]
  rcases fetch_why (intrM false b).l 0 (intrM false b).c.pc false with e | e | e
  · exact fetch_ok e
  all_goals
    exfalso
    have k : onceK (fetchS (intrM false b).l 0 (intrM false b).c.pc false) = 0 := by unfold onceK; rw [if_pos (by omega)]
    rw [onceS_def] at h
    simp only [k, if_pos] at h
    omega
theorem stp_eq {a b : Stp} (h : a = b) : a.cause = b.cause ∧ a.addr = b.addr ∧ a.i.op = b.i.op ∧ a.i.a = b.i.a ∧ a.i.b = b.i.b ∧ a.i.c = b.i.c ∧ a.i.imm = b.i.imm ∧ a.len = b.len := by
  subst h; exact ⟨rfl, rfl, rfl, rfl, rfl, rfl, rfl, rfl⟩
theorem dies_intr {b M : Mc} {k : Int} (hI : intrM false b = enterM M k 0) (hM : M.now = b.now) (he : enterB M.c = false) (ho : b.over = false) : diesM M k = stepM false b := by
  rw [stepM_def]; unfold stepM0; rw [if_neg (by rw [ho]; simp)]
  simp only
  have hE : enterM M k 0 = { M with over := true, d := dEnd M.d 4 (w32 k) } := by rw [enterM_def]; unfold enterM0; rw [if_neg (by rw [he]; simp)]
  rw [hI, hE, diesM_def]; unfold diesM0
  simp only [if_pos]; rw [hM]
theorem intr_in {b M : Mc} {k : Int} (hI : intrM false b = enterM M k 0) (he : enterB M.c = true) : intrM false b = { M with c := enterC M.c k 0 } := by
  rw [hI, enterM_def]; unfold enterM0; rw [if_pos he]
theorem in_0 {b : Mc} (h : waitsW b.c b.d b.now false = 0) : intrM false b = b := by rw [intrM_def]; unfold intrM0; simp only [h, if_pos]
theorem in_2 {b : Mc} (h : waitsW b.c b.d b.now false = 2) : intrM false b = enterM { b with d := { b.d with on := false } } (waitsW b.c b.d b.now false) 0 := by
  rw [intrM_def]; unfold intrM0; simp only [h]; rfl
theorem in_n {b : Mc} (h : waitsW b.c b.d b.now false ≠ 0) (h2 : waitsW b.c b.d b.now false ≠ 2) : intrM false b = enterM b (waitsW b.c b.d b.now false) 0 := by
  rw [intrM_def]; unfold intrM0; simp only; rw [if_neg h, if_neg h2]
theorem go_keeps {b M : Mc} (hI : intrM false b = M) : (goY b).l.length = M.l.length ∧ (goY b).w = M.w ∧ (goY b).d = M.d := by
  rw [goY_def]; unfold goY0; subst hI; exact ⟨once_len _ _ _ _, rfl, rfl⟩
theorem go_eq {b M : Mc} (hI : intrM false b = M) : ({ M with l := onceL M.l 0 M.c false, c := onceC M.l 0 M.c false } : Mc) = goY b := by
  rw [goY_def]; unfold goY0; subst hI; rfl
theorem goS_eq {b M : Mc} (hI : intrM false b = M) : onceS M.l 0 M.c false = goS b := by
  rw [goS_def, hI]
theorem up_put {b : Mc} (h : (goS b).i.op = 41) (m : mayB (pvY b).quota (rg (pvY b).c.r (goS b).i.a) (rg (pvY b).c.r (goS b).i.b) = true) :
    (16 ≤ ((pvY b).w.length : Int) → ({ syncM (pvY b) with w := (syncM (pvY b)).w ++ [(rg (syncM (pvY b)).c.r (goS b).i.a, rg (syncM (pvY b)).c.r (goS b).i.b)] } : Mc) = upY b) ∧
    (¬ 16 ≤ ((pvY b).w.length : Int) → ({ pvY b with w := (pvY b).w ++ [(rg (pvY b).c.r (goS b).i.a, rg (pvY b).c.r (goS b).i.b)] } : Mc) = upY b) := by
  rw [upY_def]; unfold upY0; rw [if_pos h, putM_def]; unfold putM0; rw [if_pos m]
  refine ⟨fun g => ?_, fun g => ?_⟩
  · rw [if_pos g]; rfl
  · rw [if_neg g]
theorem up_no {b : Mc} (h : (goS b).i.op = 41) (m : mayB (pvY b).quota (rg (pvY b).c.r (goS b).i.a) (rg (pvY b).c.r (goS b).i.b) = false) : pvY b = upY b := by
  rw [upY_def]; unfold upY0; rw [if_pos h, putM_def]; unfold putM0; rw [if_neg (by rw [m]; simp)]
theorem up_42 {b : Mc} (h : (goS b).i.op = 42) : syncM (pvY b) = upY b := by
  rw [upY_def]; unfold upY0; rw [if_neg (by omega), if_pos h]
theorem up_else {b : Mc} (h : ¬ (goS b).i.op = 41) (h' : ¬ (goS b).i.op = 42) : pvY b = upY b := by
  rw [upY_def]; unfold upY0; rw [if_neg h, if_neg h']
theorem priv_pc (i : In5) (c : Cpu) (d : Dv) (now : Int) (h : i.op ≠ 34) : (privC i c d now).pc = c.pc := by
  have it : ∀ {P : Prop} [Decidable P] {x y : Cpu}, x.pc = c.pc → y.pc = c.pc → (if P then x else y).pc = c.pc := fun hx hy => by split <;> assumption
  rw [privC_def]; unfold privC0 doC1 devC
  rw [if_neg h]
  repeat' (first | rfl | apply it)
theorem priv_41 {i : In5} (c : Cpu) (d : Dv) (now : Int) (h : i.op = 41 ∨ i.op = 42) : privC i c d now = c ∧ doD false i c d now = d := by
  rw [privC_def, doD_def]; unfold privC0 doD0 doC1 doIs devC devD
  rcases h with h | h <;> simp [h]
theorem pv_41 {b : Mc} (h : (goS b).i.op = 41 ∨ (goS b).i.op = 42) : pvY b = goY b := by
  rw [pvY_def]; unfold pvY0; rw [(priv_41 _ _ _ h).1, (priv_41 _ _ _ h).2]
theorem up_end {b : Mc} (h : (intrM false b).over = false) (hc : (goS b).cause = 6) :
    ((!decide ((goS b).i.op = 32) && !decide ((goS b).i.op = 34)) = true → ({ upY b with over := decide ((goS b).i.op = 32), c := { (upY b).c with pc := IntKind.u32.wrap ((upY b).c.pc + (goS b).len) } } : Mc) = stepN false b) ∧
    ((!decide ((goS b).i.op = 32) && !decide ((goS b).i.op = 34)) = false → ({ upY b with over := decide ((goS b).i.op = 32) } : Mc) = stepN false b) := by
  rw [sN_6 h hc, supM_def]; unfold supM0
  have hov := (goY_now h).1
  rw [upY_def]; unfold upY0
  by_cases h41 : (goS b).i.op = 41
  · have e := pv_41 (.inl h41)
    refine ⟨fun _ => ?_, fun g => (by simp [h41] at g)⟩
    rw [if_pos h41, if_pos h41, e, h41]
    have po : (putM (goY b) (rg (goY b).c.r (goS b).i.a) (rg (goY b).c.r (goS b).i.b)).over = false := by
      rw [putM_def]; unfold putM0; repeat' split
      all_goals exact hov
    have d0 : (decide ((41 : Int) = 32)) = false := by decide
    rw [d0]
    generalize putM (goY b) (rg (goY b).c.r (goS b).i.a) (rg (goY b).c.r (goS b).i.b) = p at *
    cases p; simp only at po; subst po; rfl
  · by_cases h42 : (goS b).i.op = 42
    · have e := pv_41 (.inr h42)
      refine ⟨fun _ => ?_, fun g => (by simp [h42] at g)⟩
      rw [if_neg h41, if_pos h42, if_neg h41, if_pos h42, e, h42]
      have d0 : (decide ((42 : Int) = 32)) = false := by decide
      rw [d0]
      show ({ syncM (goY b) with over := false, c := _ } : Mc) = _
      have so : (syncM (goY b)).over = false := hov
      generalize hq : syncM (goY b) = p at *
      have pc : p.c = (goY b).c := by rw [← hq]; rfl
      rw [← pc]
      cases p; simp only at so; subst so; rfl
    · rw [if_neg h41, if_neg h42, if_neg h41, if_neg h42]
      refine ⟨fun g => ?_, fun g => ?_⟩
      · have g1 : ¬ (goS b).i.op = 32 := fun e => by simp [e] at g
        have g2 : ¬ (goS b).i.op = 34 := fun e => by simp [e] at g
        rw [pvY_def]; unfold pvY0
        have ec : doC (goS b).i (goS b).len (goY b).c (goY b).d (goY b).now = { privC (goS b).i (goY b).c (goY b).d (goY b).now with pc := IntKind.u32.wrap ((privC (goS b).i (goY b).c (goY b).d (goY b).now).pc + (goS b).len) } := by
          rw [priv_pc _ _ _ _ g2, doC_def, privC_def]; unfold doC0 privC0
          rw [if_neg g1, if_neg g2, if_neg g1, if_neg g2]
        rw [ec]
      · rw [pvY_def]; unfold pvY0
        have ec : doC (goS b).i (goS b).len (goY b).c (goY b).d (goY b).now = privC (goS b).i (goY b).c (goY b).d (goY b).now := by
          rw [doC_def, privC_def]; unfold doC0 privC0
          by_cases g1 : (goS b).i.op = 32
          · rw [if_pos g1, if_pos g1]
          · have g2 : (goS b).i.op = 34 := by simp [g1] at g; exact g
            rw [if_neg g1, if_neg g1, if_pos g2, if_pos g2]
        rw [ec]
end Go.Fac

