/- Contracts that the proofs use. -/
import Derived.Test.YtpjccdncokamlaaDoorQBareS
set_option linter.unusedVariables false
set_option linter.unusedSimpArgs false
namespace Go.Fac
open Go.RowKit Go.Sy
def shM (M r : List Int) (i : Nat) (d : Dv) (now : Int) (w : List (Int × Int)) : Mc := ⟨M, ⟨r, 2048 + (i : Int), false, false, 0, 0, 0, 0⟩, d, 24, now, false, w⟩
section
variable {M code r : List Int} {i : Nat} {d : Dv} {now : Int} {w : List (Int × Int)}
theorem sh_quiet : waitsW (shM M r i d now w).c (shM M r i d now w).d (shM M r i d now w).now false = 0 := rfl
theorem w64 {n : Int} (h : 0 ≤ n ∧ n < 1000000) : IntKind.i64.wrap (n + 1) = n + 1 := by rw [IntKind.wrap_i64]; omega
theorem sh_sup (H : Code8 M code) (hi : i < 256) (hn : 0 ≤ now ∧ now < 1000000) {x : In5} {W : Int} (hw : code.getD i 0 = W) (hW : ofOk W = true ∧ ofF W 0 = x) (ht : isaTwo x.op = false) (hc : isaClass x.op = 2 ∨ isaClass x.op = 3) (h32 : x.op ≠ 32) (h34 : x.op ≠ 34) (h41 : x.op ≠ 41) (h42 : x.op ≠ 42) :
    stepM true (shM M r i d now w) = { shM M r i d now w with c := { doC1 x (shM M r i d now w).c d now with pc := 2048 + ((i + 1 : Nat) : Int) }, d := doD true x (shM M r i d now w).c d now, now := now + 1 } := by
  have F : fetchS (shM M r i d now w).l 0 (shM M r i d now w).c.pc false = ⟨0, 0, x, 1⟩ := H.fetch1 hi (by rw [hw]; exact hW.1) (by rw [hw]; exact hW.2) ht
  have hw : IntKind.i64.wrap ((shM M r i d now w).now + 1) = now + 1 := w64 hn
  rw [step_go true rfl sh_quiet, go_do true F rfl hc, supM_def, hw]
  unfold supM0
  rw [if_neg h41, if_neg h42, doC_def]
  unfold doC0
  rw [if_neg h32, if_neg h34]
  have hp : w32 ((shM M r i d now w).c.pc + 1) = 2048 + ((i + 1 : Nat) : Int) := pc1 hi
  have ho : decide (x.op = 32) = false := decide_eq_false h32
  simp only [hp, ho]
  rfl
theorem sh_dev {x : In5} (H : Code8 M code) (hi : i < 256) (hn : 0 ≤ now ∧ now < 1000000) {W : Int} (hw : code.getD i 0 = W) (hW : ofOk W = true ∧ ofF W 0 = x) (ht : isaTwo x.op = false) (hc : isaClass x.op = 2 ∨ isaClass x.op = 3) (h32 : x.op ≠ 32) (h34 : x.op ≠ 34) (h41 : x.op ≠ 41) (h42 : x.op ≠ 42)
    {r' : List Int} {d' : Dv} (hC : doC1 x (shM M r i d now w).c d now = { (shM M r i d now w).c with r := r' }) (hD : doD true x (shM M r i d now w).c d now = d') : stepM true (shM M r i d now w) = shM M r' (i + 1) d' (now + 1) w := by
  rw [sh_sup H hi hn hw hW ht hc h32 h34 h41 h42, hC, hD]; rfl
theorem sh_halt (H : Code8 M code) (hi : i < 256) (hn : 0 ≤ now ∧ now < 1000000) {a : Int} {W : Int} (hw : code.getD i 0 = W) (hW : ofOk W = true ∧ ofF W 0 = ⟨32, a, 0, 0, 0⟩) :
    stepM true (shM M r i d now w) = { shM M r i d now w with d := { d with seen := d.seen ++ [(3, 0, rg r a)] }, over := true, now := now + 1 } := by
  have F : fetchS (shM M r i d now w).l 0 (shM M r i d now w).c.pc false = ⟨0, 0, ⟨32, a, 0, 0, 0⟩, 1⟩ := H.fetch1 hi (by rw [hw]; exact hW.1) (by rw [hw]; exact hW.2) (show isaTwo 32 = false by decide)
  have hw : IntKind.i64.wrap ((shM M r i d now w).now + 1) = now + 1 := w64 hn
  rw [step_go true rfl sh_quiet, go_do true F rfl (.inl (show isaClass 32 = 2 by decide)), supM_def, hw]
  unfold supM0
  rw [if_neg (show ¬ (32 : Int) = 41 by decide), if_neg (show ¬ (32 : Int) = 42 by decide), doC_def, doD_def]
  rfl
theorem sh_li (H : Code8 M code) (hi : i < 254) (hn : 0 ≤ now ∧ now < 1000000) {a : Int} {W : Int} (hw : code.getD i 0 = W) (hW : ofOk W = true ∧ ofF W 0 = ⟨14, a, 0, 0, 0⟩) :
    stepM true (shM M r i d now w) = shM M (r.set a.toNat (code.getD (i + 1) 0)) (i + 2) d (now + 1) w := by
  have F : fetchS (shM M r i d now w).l 0 (shM M r i d now w).c.pc false = ⟨0, 0, ⟨14, a, 0, 0, code.getD (i + 1) 0⟩, 2⟩ :=
    H.fetch2 (i := i) (x := ⟨14, a, 0, 0, 0⟩) (by omega) (by rw [hw]; exact hW.1) (by rw [hw]; exact hW.2) (show isaTwo 14 = true by decide)
  have ok : In5.ok ⟨14, a, 0, 0, code.getD (i + 1) 0⟩ = true := by
    have := fetch_ok (l := (shM M r i d now w).l) (root := 0) (pc := (shM M r i d now w).c.pc) (us := false) (by rw [F])
    rw [F] at this; exact this
  obtain ⟨p1, p2, p3⟩ := plain_alu (l := (shM M r i d now w).l) (root := 0) (c := (shM M r i d now w).c) (us := false) (s := ⟨0, 0, ⟨14, a, 0, 0, code.getD (i + 1) 0⟩, 2⟩) rfl (show isaJumps 14 = false by decide)
  have hd : doR ⟨14, a, 0, 0, code.getD (i + 1) 0⟩ r = r.set a.toNat (code.getD (i + 1) 0) := by
    have : doOk ⟨14, a, 0, 0, code.getD (i + 1) 0⟩ = true := by unfold doOk; rw [ok]; rfl
    unfold doR
    rw [this, if_neg (by simp), if_neg (show ¬ (14 : Int) = 1 by decide), if_pos (show (14 : Int) = 14 ∨ (14 : Int) = 15 by decide)]
  have hw : IntKind.i64.wrap ((shM M r i d now w).now + 1) = now + 1 := w64 hn
  have hp : w32 ((shM M r i d now w).c.pc + 2) = 2048 + ((i + 2 : Nat) : Int) := pc2 (by omega)
  have hd' : doR ⟨14, a, 0, 0, code.getD (i + 1) 0⟩ (shM M r i d now w).c.r = r.set a.toNat (code.getD (i + 1) 0) := hd
  rw [step_go true rfl sh_quiet, go_plain true F rfl (show isaClass 14 = 1 by decide) (by rw [p2]), p1, p3, hw]
  simp only [hp, hd']
  rfl
end
def outL (l : List Int) : Nat → List Int
  | 0 => []
  | j + 1 => outL l j ++ [234946560, l.getD j 0, 587268096]
def tailH : List Int := [235012096, 5, 604176384, 620888832, 637796864, 587464704, 671481856, 587595776, 537264128]
def codeH (l : List Int) : List Int := outL l l.length ++ tailH
theorem outL_len (l : List Int) : ∀ j, (outL l j).length = 3 * j
  | 0 => rfl
  | j + 1 => by rw [outL, List.length_append, outL_len l j]; simp; omega
theorem outL_pre (l : List Int) (j : Nat) : ∀ k, ∃ r, outL l (j + k) = outL l j ++ r
  | 0 => ⟨[], by simp⟩
  | k + 1 => by
    obtain ⟨r, h⟩ := outL_pre l j k
    exact ⟨r ++ [234946560, l.getD (j + k) 0, 587268096], by rw [show j + (k + 1) = (j + k) + 1 by omega, outL, h, List.append_assoc]⟩
theorem codeH_at {l : List Int} {j : Nat} (hj : j < l.length) {t : Nat} (ht : t < 3) : (codeH l).getD (3 * j + t) 0 = ([234946560, l.getD j 0, 587268096] : List Int).getD t 0 := by
  obtain ⟨r, h⟩ := outL_pre l (j + 1) (l.length - (j + 1))
  rw [show j + 1 + (l.length - (j + 1)) = l.length by omega] at h
  have hl := outL_len l j
  unfold codeH
  rw [h, outL, List.append_assoc, List.append_assoc, List.getD_eq_getElem?_getD, List.getElem?_append_right (by omega), hl, show 3 * j + t - 3 * j = t by omega, List.getElem?_append_left (by simpa using ht), ← List.getD_eq_getElem?_getD]
theorem codeH_end (l : List Int) (t : Nat) : (codeH l).getD (3 * l.length + t) 0 = tailH.getD t 0 := by
  have hl := outL_len l l.length
  unfold codeH
  rw [List.getD_eq_getElem?_getD, List.getElem?_append_right (by omega), hl, show 3 * l.length + t - 3 * l.length = t by omega, ← List.getD_eq_getElem?_getD]
def regH (l : List Int) : Nat → List Int
  | 0 => List.replicate 16 0
  | j + 1 => (regH l j).set 1 (l.getD j 0)
theorem regH_len (l : List Int) : ∀ j, (regH l j).length = 16
  | 0 => List.length_replicate ..
  | j + 1 => by rw [regH, List.length_set, regH_len l j]
def devH (key : Int) (seen : List (Int × Int × Int)) : Dv := ⟨[key], List.replicate 16 0, false, 0, seen⟩
def startH (l : List Int) (key : Int) : Mc := shM (mem8 24 [] (codeH l)) (List.replicate 16 0) 0 (devH key []) 0 []
section
variable {l : List Int} {key : Int}
theorem seenO_snoc (l : List Int) (x : Int) : seenO (l ++ [x]) = seenO l ++ [(1, 0, x)] := by unfold seenO; simp
theorem runH (hl : l.length ≤ 20) : ∀ j, j ≤ l.length → iterM true (startH l key) (2 * j) = shM (mem8 24 [] (codeH l)) (regH l j) (3 * j) (devH key (seenO (l.take j))) (2 * j : Nat) [] ∧ ∀ i, i < 2 * j → (iterM true (startH l key) i).over = false
  | 0, _ => ⟨rfl, fun i hi => by omega⟩
  | j + 1, hj => by
    obtain ⟨e, ho⟩ := runH hl j (by omega)
    have c0 := codeH_at (l := l) (j := j) (by omega) (t := 0) (by decide)
    have c1 := codeH_at (l := l) (j := j) (by omega) (t := 1) (by decide)
    have c2 := codeH_at (l := l) (j := j) (by omega) (t := 2) (by decide)
    have H := code8 (codeH l)
    have s1 := sh_li (r := regH l j) (d := devH key (seenO (l.take j))) (now := ((2 * j : Nat) : Int)) (w := []) H (i := 3 * j) (by omega) (by omega) (a := 1) (W := 234946560) c0 ⟨by decide +kernel, by decide +kernel⟩
    have c1 : (codeH l).getD (3 * j + 1) 0 = l.getD j 0 := c1
    rw [c1] at s1
    have e1 : iterM true (startH l key) (2 * j + 1) = shM (mem8 24 [] (codeH l)) (regH l (j + 1)) (3 * j + 2) (devH key (seenO (l.take j))) ((2 * j : Nat) + 1) [] := by
      rw [iterM, e, s1]; rfl
    have s2 := sh_sup (r := regH l (j + 1)) (d := devH key (seenO (l.take j))) (now := ((2 * j : Nat) : Int) + 1) (w := []) H (i := 3 * j + 2) (by omega) (by omega) (x := ⟨35, 1, 0, 0, 0⟩) (W := 587268096) c2 ⟨by decide +kernel, by decide +kernel⟩ (by decide) (.inl (by decide)) (by decide) (by decide) (by decide) (by decide)
    have ht : l.take (j + 1) = l.take j ++ [l.getD j 0] := by rw [List.take_add_one, List.getElem?_eq_getElem (by omega : j < l.length)]; simp [show j < l.length by omega]
    have hr : rg (regH l (j + 1)) 1 = l.getD j 0 := by
      unfold rg; rw [regH, List.getD_eq_getElem?_getD, show Int.toNat 1 = 1 from rfl, List.getElem?_set_self (by rw [regH_len]; decide)]; rfl
    have e2 : iterM true (startH l key) (2 * j + 2) = shM (mem8 24 [] (codeH l)) (regH l (j + 1)) (3 * (j + 1)) (devH key (seenO (l.take (j + 1)))) ((2 * (j + 1) : Nat) : Int) [] := by
      rw [show 2 * j + 2 = (2 * j + 1) + 1 by omega, iterM, e1, s2, ht, seenO_snoc, ← hr]
      simp [shM, doC1, devC, doD_def, doD0, doIs, devD, dOut, devH]
      omega
    refine ⟨by rw [show 2 * (j + 1) = 2 * j + 2 by omega, e2]; rfl, fun i hi => ?_⟩
    rcases Nat.lt_or_ge i (2 * j) with h | h
    · exact ho i h
    · rcases (show i = 2 * j ∨ i = 2 * j + 1 by omega) with rfl | rfl
      · rw [e]; rfl
      · rw [e1]; rfl
theorem rg_set {r : List Int} {k a : Nat} {v : Int} (hl : r.length = 16) (hk : k < 16) : rg (r.set k v) (a : Int) = if a = k then v else rg r (a : Int) := by
  unfold rg; rw [Int.toNat_natCast, List.getD_eq_getElem?_getD, List.getD_eq_getElem?_getD]
  by_cases e : a = k
  · subst e; rw [if_pos rfl, List.getElem?_set_self (by omega)]; rfl
  · rw [if_neg e, List.getElem?_set_ne (by omega)]
theorem shows_law (hl : l.length ≤ 20) : (∀ i, i < 2 * l.length + 8 → (iterM true (startH l key) i).over = false) ∧ (iterM true (startH l key) (2 * l.length + 8)).over = true ∧ (iterM true (startH l key) (2 * l.length + 8)).now = 2 * l.length + 8 ∧
    (iterM true (startH l key) (2 * l.length + 8)).d.seen = seenO l ++ [(2, 5, key), (1, 0, key), (1, 0, 2 * l.length + 5), (3, 0, 2 * l.length + 5)] := by
  obtain ⟨e0, ho⟩ := runH (key := key) hl l.length (Nat.le_refl _)
  rw [List.take_length] at e0
  have H := code8 (codeH l)
  have hR := regH_len l l.length
  have c := codeH_end l
  generalize hM : mem8 24 [] (codeH l) = M at *
  generalize hr : regH l l.length = R at *
  generalize hk : l.length = k at *
  generalize hS : seenO l = S at *
  generalize hn : ((2 * k : Nat) : Int) = N at *
  have f1 : stepM true (shM M R (3 * k) (devH key S) N []) = shM M (R.set 2 5) (3 * k + 2) (devH key S) (N + 1) [] := by
    have := sh_li (r := R) (d := devH key S) (now := N) (w := []) H (i := 3 * k) (by omega) (by omega) (a := 2) (W := 235012096) (c 0) ⟨by decide +kernel, by decide +kernel⟩
    rw [this, c 1]; rfl
  have f2 : stepM true (shM M (R.set 2 5) (3 * k + 2) (devH key S) (N + 1) []) = shM M ((R.set 2 5).set 3 key) (3 * k + 3) ⟨[], List.replicate 16 0, false, 0, S⟩ (N + 1 + 1) [] :=
    sh_dev (x := ⟨36, 3, 0, 0, 0⟩) H (by omega) (by omega) (W := 604176384) (c 2) ⟨by decide +kernel, by decide +kernel⟩ (by decide) (.inl (by decide)) (by decide) (by decide) (by decide) (by decide) rfl (by rw [doD_def]; rfl)
  have g2 : rg ((R.set 2 5).set 3 key) 2 = 5 := by
    have := rg_set (r := R.set 2 5) (k := 3) (a := 2) (v := key) (by rw [List.length_set]; exact hR) (by decide)
    have h2 := rg_set (r := R) (k := 2) (a := 2) (v := 5) hR (by decide)
    exact this.trans h2
  have g3 : rg ((R.set 2 5).set 3 key) 3 = key := rg_set (r := R.set 2 5) (k := 3) (a := 3) (v := key) (by rw [List.length_set]; exact hR) (by decide)
  have l2 : ((R.set 2 5).set 3 key).length = 16 := by rw [List.length_set, List.length_set]; exact hR
  generalize (R.set 2 5).set 3 key = R2 at *
  have f3 : stepM true (shM M R2 (3 * k + 3) ⟨[], List.replicate 16 0, false, 0, S⟩ (N + 1 + 1) []) = shM M R2 (3 * k + 4) ⟨[], (List.replicate 16 0).set 5 key, false, 0, S ++ [(2, 5, key)]⟩ (N + 1 + 1 + 1) [] :=
    sh_dev (x := ⟨37, 2, 3, 0, 0⟩) H (by omega) (by omega) (W := 620888832) (c 3) ⟨by decide +kernel, by decide +kernel⟩ (by decide) (.inl (by decide)) (by decide) (by decide) (by decide) (by decide) rfl (by
      rw [doD_def]
      show dPut _ (rg R2 2) (rg R2 3) = _
      rw [g2, g3]; rfl)
  have f4 : stepM true (shM M R2 (3 * k + 4) ⟨[], (List.replicate 16 0).set 5 key, false, 0, S ++ [(2, 5, key)]⟩ (N + 1 + 1 + 1) []) = shM M (R2.set 4 key) (3 * k + 5) ⟨[], (List.replicate 16 0).set 5 key, false, 0, S ++ [(2, 5, key)]⟩ (N + 1 + 1 + 1 + 1) [] :=
    sh_dev (x := ⟨38, 4, 2, 0, 0⟩) H (by omega) (by omega) (W := 637796864) (c 4) ⟨by decide +kernel, by decide +kernel⟩ (by decide) (.inl (by decide)) (by decide) (by decide) (by decide) (by decide) (by
      have e : dGet ⟨[], (List.replicate 16 0).set 5 key, false, 0, S ++ [(2, 5, key)]⟩ (rg R2 2) = key := by rw [g2]; rfl
      exact congrArg (fun v => ({ (shM M R2 (3 * k + 4) ⟨[], (List.replicate 16 0).set 5 key, false, 0, S ++ [(2, 5, key)]⟩ (N + 1 + 1 + 1) []).c with r := R2.set 4 v } : Cpu)) e) (by rw [doD_def]; rfl)
  have g4 : rg (R2.set 4 key) 4 = key := rg_set (r := R2) (k := 4) (a := 4) (v := key) l2 (by decide)
  have l3 : (R2.set 4 key).length = 16 := by rw [List.length_set]; exact l2
  generalize R2.set 4 key = R3 at *
  have f5 : stepM true (shM M R3 (3 * k + 5) ⟨[], (List.replicate 16 0).set 5 key, false, 0, S ++ [(2, 5, key)]⟩ (N + 1 + 1 + 1 + 1) []) = shM M R3 (3 * k + 6) ⟨[], (List.replicate 16 0).set 5 key, false, 0, S ++ [(2, 5, key)] ++ [(1, 0, key)]⟩ (N + 1 + 1 + 1 + 1 + 1) [] :=
    sh_dev (x := ⟨35, 4, 0, 0, 0⟩) H (by omega) (by omega) (W := 587464704) (c 5) ⟨by decide +kernel, by decide +kernel⟩ (by decide) (.inl (by decide)) (by decide) (by decide) (by decide) (by decide) rfl (by
      rw [doD_def]
      show dOut _ (rg R3 4) = _
      rw [g4]; rfl)
  have hw : w32 (N + 1 + 1 + 1 + 1 + 1) = N + 5 := by show IntKind.u32.wrap _ = _; rw [IntKind.wrap_u32]; omega
  have f6 : stepM true (shM M R3 (3 * k + 6) ⟨[], (List.replicate 16 0).set 5 key, false, 0, S ++ [(2, 5, key)] ++ [(1, 0, key)]⟩ (N + 1 + 1 + 1 + 1 + 1) []) = shM M (R3.set 6 (N + 5)) (3 * k + 7) ⟨[], (List.replicate 16 0).set 5 key, false, 0, S ++ [(2, 5, key)] ++ [(1, 0, key)]⟩ (N + 1 + 1 + 1 + 1 + 1 + 1) [] :=
    sh_dev (x := ⟨40, 6, 0, 0, 0⟩) H (by omega) (by omega) (W := 671481856) (c 6) ⟨by decide +kernel, by decide +kernel⟩ (by decide) (.inl (by decide)) (by decide) (by decide) (by decide) (by decide) (by
      exact congrArg (fun v => ({ (shM M R3 (3 * k + 6) ⟨[], (List.replicate 16 0).set 5 key, false, 0, S ++ [(2, 5, key)] ++ [(1, 0, key)]⟩ (N + 1 + 1 + 1 + 1 + 1) []).c with r := R3.set 6 v } : Cpu)) hw) (by rw [doD_def]; rfl)
  have g6 : rg (R3.set 6 (N + 5)) 6 = N + 5 := rg_set (r := R3) (k := 6) (a := 6) (v := N + 5) l3 (by decide)
  generalize R3.set 6 (N + 5) = R4 at *
  have f7 : stepM true (shM M R4 (3 * k + 7) ⟨[], (List.replicate 16 0).set 5 key, false, 0, S ++ [(2, 5, key)] ++ [(1, 0, key)]⟩ (N + 1 + 1 + 1 + 1 + 1 + 1) []) = shM M R4 (3 * k + 8) ⟨[], (List.replicate 16 0).set 5 key, false, 0, S ++ [(2, 5, key)] ++ [(1, 0, key)] ++ [(1, 0, N + 5)]⟩ (N + 1 + 1 + 1 + 1 + 1 + 1 + 1) [] :=
    sh_dev (x := ⟨35, 6, 0, 0, 0⟩) H (by omega) (by omega) (W := 587595776) (c 7) ⟨by decide +kernel, by decide +kernel⟩ (by decide) (.inl (by decide)) (by decide) (by decide) (by decide) (by decide) rfl (by
      rw [doD_def]
      show dOut _ (rg R4 6) = _
      rw [g6]; rfl)
  have f8 := sh_halt (M := M) (r := R4) (i := 3 * k + 8) (d := ⟨[], (List.replicate 16 0).set 5 key, false, 0, S ++ [(2, 5, key)] ++ [(1, 0, key)] ++ [(1, 0, N + 5)]⟩) (now := N + 1 + 1 + 1 + 1 + 1 + 1 + 1) (w := []) H (by omega) (by omega) (a := 6) (W := 537264128) (c 8) ⟨by decide +kernel, by decide +kernel⟩
  rw [g6] at f8
  have i1 := (show iterM true (startH l key) (2 * k + 1) = stepM true (iterM true (startH l key) (2 * k)) from rfl).trans ((congrArg (stepM true) e0).trans f1)
  have i2 := (show iterM true (startH l key) (2 * k + 2) = stepM true (iterM true (startH l key) (2 * k + 1)) from rfl).trans ((congrArg (stepM true) i1).trans f2)
  have i3 := (show iterM true (startH l key) (2 * k + 3) = stepM true (iterM true (startH l key) (2 * k + 2)) from rfl).trans ((congrArg (stepM true) i2).trans f3)
  have i4 := (show iterM true (startH l key) (2 * k + 4) = stepM true (iterM true (startH l key) (2 * k + 3)) from rfl).trans ((congrArg (stepM true) i3).trans f4)
  have i5 := (show iterM true (startH l key) (2 * k + 5) = stepM true (iterM true (startH l key) (2 * k + 4)) from rfl).trans ((congrArg (stepM true) i4).trans f5)
  have i6 := (show iterM true (startH l key) (2 * k + 6) = stepM true (iterM true (startH l key) (2 * k + 5)) from rfl).trans ((congrArg (stepM true) i5).trans f6)
  have i7 := (show iterM true (startH l key) (2 * k + 7) = stepM true (iterM true (startH l key) (2 * k + 6)) from rfl).trans ((congrArg (stepM true) i6).trans f7)
  have i8 := (show iterM true (startH l key) (2 * k + 8) = stepM true (iterM true (startH l key) (2 * k + 7)) from rfl).trans ((congrArg (stepM true) i7).trans f8)
  refine ⟨fun i hi => ?_, by rw [i8], by rw [i8]; simp only; omega, by rw [i8]; simp; omega⟩
  rcases Nat.lt_or_ge i (2 * k) with h | h
  · exact ho i h
  · rcases (show i = 2 * k ∨ i = 2 * k + 1 ∨ i = 2 * k + 2 ∨ i = 2 * k + 3 ∨ i = 2 * k + 4 ∨ i = 2 * k + 5 ∨ i = 2 * k + 6 ∨ i = 2 * k + 7 by omega) with rfl | rfl | rfl | rfl | rfl | rfl | rfl | rfl
    · rw [e0]; rfl
    · rw [i1]; rfl
    · rw [i2]; rfl
    · rw [i3]; rfl
    · rw [i4]; rfl
    · rw [i5]; rfl
    · rw [i6]; rfl
    · rw [i7]; rfl
end
end Go.Fac

