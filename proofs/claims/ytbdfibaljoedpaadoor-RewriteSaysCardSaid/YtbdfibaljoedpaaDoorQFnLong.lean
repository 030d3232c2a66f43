/- Contracts that the proofs use. -/
import Derived.Test.YtbdfibaljoedpaaDoorQFnKeep
import Derived.Test.YtbdfibaljoedpaaDoorQFnSee
set_option linter.unusedVariables false
set_option linter.unusedSimpArgs false
set_option linter.unusedSectionVars false
namespace Go.Proofs.YtbdfibaljoedpaaDoor
open Go.RowKit Go.Sy Go.Fac
section
variable {ea : Int → Addr} {has : Int → Prop} {rest : List (Nat × SVal)}
def mainLn : Ln := ⟨⟨0, 0, 0, 0, 0⟩, ⟨#[109, 97, 105, 110]⟩, ByteArray.empty, false⟩
def clisL : Nat → List Ln
  | 0 => [mainLn]
  | i + 1 => clisL i ++ [opL 64 []]
theorem clisL_len : ∀ i, (clisL i).length = i + 1
  | 0 => rfl
  | i + 1 => by rw [clisL, List.length_append, clisL_len i]; rfl
def cC (n : Nat) : List Int := (oAll (clisL n)).code
def cM (n : Nat) : List Int := (oAll (clisL n)).map
def cR (n : Nat) : List Rel := (oAll (clisL n)).cr
def cS (n : Nat) : List Sm := (oAll (clisL n)).sy
def mainSm : Sm := ⟨⟨#[109, 97, 105, 110]⟩, 2, 0, true⟩
abbrev cliW : Int := 1073741824
theorem clisL_eq : ∀ n, clisL n = mainLn :: List.replicate n (opL 64 [])
  | 0 => rfl
  | n + 1 => by rw [clisL, clisL_eq n, List.replicate_succ']; rfl
theorem step_main : oStep mainLn ⟨[], [], [], []⟩ = ⟨[], [], [], [mainSm]⟩ := by
  unfold oStep
  rw [if_pos (by decide)]
  rfl
theorem step_cli (s : OS) : oStep (opL 64 []) s = ⟨s.code ++ [cliW], s.map ++ [1], s.cr, s.sy⟩ := by
  have e1 : isaTwo 64 = false := by decide
  have e2 : wordW 64 0 0 0 0 = cliW := by decide +kernel
  unfold oStep
  rw [if_neg (by simp [opL]), if_neg (by simp [opL])]
  unfold oIns oRel
  simp [opL, e1, e2]
theorem clis_st (n : Nat) : ∀ j, j ≤ n → oSt (clisL n) (j + 1) = ⟨List.replicate j cliW, List.replicate j 1, [], [mainSm]⟩
  | 0, _ => by
    rw [oSt, oSt, clisL_eq]
    exact step_main
  | j + 1, h => by
    rw [oSt, clis_st n j (by omega)]
    have : (clisL n).getD (j + 1) RT.line.dflt = opL 64 [] := by
      rw [clisL_eq, List.getD_eq_getElem?_getD, List.getElem?_cons_succ, List.getElem?_replicate, if_pos (by omega)]; rfl
    rw [this, step_cli]
    simp only
    rw [← List.replicate_succ', ← List.replicate_succ']
theorem clis_all (n : Nat) : oAll (clisL n) = ⟨List.replicate n cliW, List.replicate n 1, [], [mainSm]⟩ := by
  unfold oAll; rw [clisL_len]; exact clis_st n n (Nat.le_refl _)
theorem firstE_of {f : Nat → FErr} : ∀ n, (∀ i, i < n → (f i).isErr = false) → firstE f n = .fine
  | 0, _ => rfl
  | n + 1, h => firstE_fine (firstE_of n fun i hi => h i (by omega)) (h n (by omega))
theorem rep_get {n i : Nat} (x : Int) (h : i < n) : (List.replicate n x).getD i 0 = x := by
  rw [List.getD_eq_getElem?_getD, List.getElem?_replicate, if_pos h]; rfl
section
variable {n : Nat} (h0 : 0 < n) (hn : n ≤ 2000)
include h0 hn
theorem cli_ins {i : Nat} (h : i < n) : insB (List.replicate n cliW) (List.replicate n 1) i = true ∧ (insI (List.replicate n cliW) (List.replicate n 1) i).op = 64 := by
  have hb : begM (List.replicate n cliW) (List.replicate n 1) i = true := by
    unfold begM
    rw [Int.toNat_natCast, rep_get 1 h, List.length_replicate, List.length_replicate, decide_eq_false (by omega : ¬ (i : Int) < 0), decide_eq_false (by omega : ¬ (n : Int) ≤ i)]
    rfl
  have hk : ofOk cliW = true := by decide +kernel
  unfold insB insI
  rw [hb, Int.toNat_natCast, rep_get cliW h, if_pos rfl, hk]
  refine ⟨rfl, ?_⟩
  unfold ofF
  rw [if_pos hk]
  show cliW / 16777216 = 64
  decide
theorem cli_word {i : Nat} (h : i < n) : wordE (List.replicate n cliW) (List.replicate n 1) i = .fine := by
  obtain ⟨a, b⟩ := cli_ins h0 hn h
  unfold wordE
  have e1 : isaTwo 64 = false := by decide
  have e2 : decide (isaClass 64 = 4) = false := by decide
  rw [Int.toNat_natCast, rep_get 1 h, if_pos rfl, a, b, e1, e2]
  rfl
theorem cli_valid : (validE [] (List.replicate n cliW) (List.replicate n 1) [] [] [mainSm]).isErr = false := by
  have m1 : manyB [] (List.replicate n cliW) [] [] [mainSm] = false := by
    unfold manyB
    rw [List.length_replicate, decide_eq_false (by omega : ¬ (2048 : Int) < n)]
    rfl
  have m2 : decide (((List.replicate n (1 : Int)).length : Int) = (List.replicate n cliW).length) = true := by rw [List.length_replicate, List.length_replicate]; exact decide_eq_true rfl
  have m3 : firstE (wdE (List.replicate n cliW) (List.replicate n 1)) (List.replicate n cliW).length = .fine := by
    rw [List.length_replicate]
    refine firstE_of n fun i hi => ?_
    unfold wdE; rw [cli_word h0 hn hi]; rfl
  have m4 : firstE (syE [] (List.replicate n cliW) (List.replicate n 1) [mainSm]) 1 = .fine := by
    refine firstE_of 1 fun i hi => ?_
    have : i = 0 := by omega
    subst this
    unfold syE symE
    have k1 : symOk mainSm.name = true := by decide +kernel
    have k2 : symFine [] (List.replicate n cliW) (List.replicate n 1) 2 0 true = true := by
      unfold symFine
      rw [if_neg (by decide), if_pos rfl, List.length_replicate, show Int.toNat 0 = 0 from rfl, rep_get 1 h0, decide_eq_true (by omega : (0 : Int) < n)]
      rfl
    show (if symOk mainSm.name = false then FErr.bare 103 else if (1 : Int) < 0 + 1 then FErr.bare 106 else if symFine [] (List.replicate n cliW) (List.replicate n 1) 2 0 true = true then FErr.fine else FErr.bare 103).isErr = false
    rw [k1, if_neg (by simp), if_neg (by decide), if_pos k2]
    rfl
  have m5 : relocsE [] (List.replicate n cliW) (List.replicate n 1) [] [] [mainSm] = .fine := by
    have : firstE (needE (List.replicate n cliW) (List.replicate n 1) []) (List.replicate n cliW).length = .fine := by
      rw [List.length_replicate]
      refine firstE_of n fun i hi => ?_
      obtain ⟨a, b⟩ := cli_ins h0 hn hi
      have e1 : shortM 64 = false := by decide
      have e2 : farM 64 = false := by decide
      have e3 : decide ((64 : Int) = 15) = false := by decide
      unfold needE
      rw [a, b, e1, e2, e3]
      rfl
    unfold relocsE
    rw [this]; rfl
  unfold validE
  rw [m1, if_neg (by simp), m2, m3, show ([mainSm].length) = 1 from rfl, m4, m5]
  rfl
omit h0 hn in
theorem cli_isF {i : Nat} (h : i < n) : isF (List.replicate n cliW) (List.replicate n 1) i = true := by
  unfold isF
  rw [rep_get 1 h, rep_get cliW h]
  decide
theorem cli_ahead : ∀ i, i ≤ n → ahead (List.replicate n cliW) (List.replicate n 1) i = i ∧ (rwC (List.replicate n cliW) (List.replicate n 1) i).length = 2 * i
  | 0, _ => ⟨rfl, rfl⟩
  | i + 1, h => by
    obtain ⟨a, b⟩ := cli_ahead i (by omega)
    have hF := cli_isF (show i < n by omega)
    have hs := ((finds (cli_valid h0 hn) (by rw [List.length_replicate]; omega)).1 hF).2.2.2.2
    refine ⟨by rw [hs, a], ?_⟩
    rw [rwC, if_pos hF, List.length_append, b]
    simp only [List.length_cons, List.length_nil]; omega
theorem cli_sites : (sitesM [] (List.replicate n cliW) (List.replicate n 1) [] [] [mainSm]).length = n := by
  unfold sitesM
  rw [if_neg (by rw [cli_valid h0 hn]; simp)]
  have := (cli_ahead h0 hn n (Nat.le_refl _)).1
  rw [List.length_replicate]
  exact this
end
end
end Go.Proofs.YtbdfibaljoedpaaDoor

