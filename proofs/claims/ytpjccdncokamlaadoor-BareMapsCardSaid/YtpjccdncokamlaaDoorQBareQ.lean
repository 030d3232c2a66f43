/- Contracts that the proofs use. -/
import Derived.Test.YtpjccdncokamlaaDoorQBareT
set_option linter.unusedVariables false
set_option linter.unusedSimpArgs false
set_option linter.unusedSectionVars false
namespace Go.Fac
open Go.RowKit Go.Sy
section
variable {M code : List Int}
theorem en_word {f k : Int} (hf : 0 ≤ f ∧ f < 1024) (hk : k = 3 ∨ k = 7) : enOk (f * 256 + k) = true ∧ enF (f * 256 + k) = f ∧ enT (f * 256 + k) = true ∧ enW (f * 256 + k) = true := by
  have ok : enOk (f * 256 + k) = true := by unfold enOk; simp; right; omega
  refine ⟨ok, ?_, ?_, ?_⟩
  · unfold enF; rw [if_pos ok]; omega
  · unfold enT; rw [ok]; simp; omega
  · unfold enW; rw [ok]; simp; omega
theorem Code8.upd (h : Code8 M code) {p w : Int} (h0 : 0 ≤ p) (h1 : p < 128) : updL M (p, w) = Fac.wr M (16 + p) w := by
  have r := h.root (p / 16) (by omega) (by omega)
  obtain ⟨_, e2, e3, _⟩ := en_word (f := p / 16 + 1) (k := 7) (by omega) (.inr rfl)
  unfold updL
  have ew : IntKind.i64.wrap ((p / 16 + 1) * 16 + p % 16) = 16 + p := by rw [IntKind.wrap_i64]; omega
  simp only [r, e2, e3, if_true, ew]
theorem Code8.upd_ok (h : Code8 M code) {p w : Int} (h0 : 0 ≤ p) (h1 : p < 128) : Code8 (updL M (p, w)) code := by
  rw [h.upd h0 h1]; exact h.wr (by omega) w
theorem Code8.page (h : Code8 M code) {p o : Int} (hp : 0 ≤ p ∧ p < 128) (ho : 0 ≤ o ∧ o < 16) (W : Bool) : wkOk M 0 (16 * p + o) W false = (enT (rd M (16 + p)) && !(W && !enW (rd M (16 + p))) && decide (enF (rd M (16 + p)) < 40)) ∧
    (wkOk M 0 (16 * p + o) W false = true → wkA M 0 (16 * p + o) W false = enF (rd M (16 + p)) * 16 + o) := by
  have d0 : (16 * p + o) / 16 = p := by omega
  have dm : (16 * p + o) % 16 = o := by omega
  have r := h.root (p / 16) (by omega) (by omega)
  obtain ⟨_, e2, e3, _⟩ := en_word (f := p / 16 + 1) (k := 7) (by omega) (.inr rfl)
  have z : (0 : Int) * 16 + p / 16 = p / 16 := by omega
  have E1 : entOk M 0 (p / 16) = true := by unfold entOk; rw [h.frN, z, r, e3]; decide
  have W1 : entW M 0 (p / 16) = (p / 16 + 1) * 256 + 7 := by unfold entW; rw [if_pos E1, z, r]
  have a2 : (p / 16 + 1) * 16 + p % 16 = 16 + p := by omega
  have E2 : entOk M (p / 16 + 1) (p % 16) = enT (rd M (16 + p)) := by
    unfold entOk; rw [h.frN, a2, decide_eq_true (by omega : (0 : Int) ≤ p / 16 + 1), decide_eq_true (by omega : p / 16 + 1 < 40)]; rfl
  have pk : pgOk M 0 p = enT (rd M (16 + p)) := by
    unfold pgOk; rw [E1, W1, e2, E2, decide_eq_true hp.1, decide_eq_true (by omega : p < 256)]; simp
  have pw : enT (rd M (16 + p)) = true → pgW M 0 p = rd M (16 + p) := fun ht => by
    unfold pgW; rw [if_pos (by rw [pk]; exact ht), W1, e2]
    unfold entW; rw [if_pos (by rw [E2]; exact ht), a2]
  have k1 : wkOk M 0 (16 * p + o) W false = (enT (rd M (16 + p)) && !(W && !enW (rd M (16 + p))) && decide (enF (rd M (16 + p)) < 40)) := by
    unfold wkOk; rw [d0, pk, h.frN, decide_eq_true (by omega : 16 * p + o < 4096)]
    cases ht : enT (rd M (16 + p)) with
    | false => simp
    | true => rw [pw ht]; simp
  refine ⟨k1, fun hk => ?_⟩
  have ht : enT (rd M (16 + p)) = true := by
    rw [k1] at hk; simp only [Bool.and_eq_true] at hk; exact hk.1.1
  unfold wkA; rw [if_pos hk, d0, dm, pw ht]
end
section
variable {M code r : List Int} {i : Nat} {d : Dv} {now : Int} {w : List (Int × Int)}
theorem sh_spte (H : Code8 M code) (hi : i < 256) (hn : 0 ≤ now ∧ now < 1000000) {a b : Int} {W : Int} (hw : code.getD i 0 = W) (hW : ofOk W = true ∧ ofF W 0 = ⟨41, a, b, 0, 0⟩) :
    stepM true (shM M r i d now w) = (if mayB 24 (rg r a) (rg r b) = true then (if 16 ≤ (w.length : Int) then shM (syncL M w) r (i + 1) d (now + 1) [(rg r a, rg r b)] else shM M r (i + 1) d (now + 1) (w ++ [(rg r a, rg r b)])) else shM M r (i + 1) d (now + 1) w) := by
  have F : fetchS (shM M r i d now w).l 0 (shM M r i d now w).c.pc false = ⟨0, 0, ⟨41, a, b, 0, 0⟩, 1⟩ := H.fetch1 hi (by rw [hw]; exact hW.1) (by rw [hw]; exact hW.2) (show isaTwo 41 = false by decide)
  have hw : IntKind.i64.wrap ((shM M r i d now w).now + 1) = now + 1 := w64 hn
  have hp : w32 (2048 + (i : Int) + 1) = 2048 + ((i + 1 : Nat) : Int) := pc1 hi
  rw [step_go true rfl sh_quiet, go_do true F rfl (.inl (show isaClass 41 = 2 by decide)), supM_def, hw]
  unfold supM0
  rw [if_pos (show (41 : Int) = 41 from rfl), putM_def]
  unfold putM0
  simp only [shM]
  by_cases h1 : mayB 24 (rg r a) (rg r b) = true
  · by_cases h2 : 16 ≤ (w.length : Int)
    · simp only [h1, h2, if_true, hp]
    · simp only [h1, h2, if_true, if_false, hp]
  · have hp' : w32 (2048 + (i : Int) + 1) = 2048 + ((i : Int) + 1) := by rw [hp]; omega
    simp [h1, hp']
theorem sh_sync (H : Code8 M code) (hi : i < 256) (hn : 0 ≤ now ∧ now < 1000000) (hw : code.getD i 0 = 704643072) : stepM true (shM M r i d now w) = shM (syncL M w) r (i + 1) d (now + 1) [] := by
  have F : fetchS (shM M r i d now w).l 0 (shM M r i d now w).c.pc false = ⟨0, 0, ⟨42, 0, 0, 0, 0⟩, 1⟩ := H.fetch1 hi (by rw [hw]; decide +kernel) (by rw [hw]; decide +kernel) (by decide)
  have hw : IntKind.i64.wrap ((shM M r i d now w).now + 1) = now + 1 := w64 hn
  have hp : w32 (2048 + (i : Int) + 1) = 2048 + ((i + 1 : Nat) : Int) := pc1 hi
  rw [step_go true rfl sh_quiet, go_do true F rfl (.inl (show isaClass 42 = 2 by decide)), supM_def, hw]
  unfold supM0
  rw [if_neg (show ¬ (42 : Int) = 41 by decide), if_pos (show (42 : Int) = 42 from rfl)]
  simp only [shM, syncM, hp]
theorem sh_mem (H : Code8 M code) (hi : i < 256) (hn : 0 ≤ now ∧ now < 1000000) {x : In5} {W : Int} (hw : code.getD i 0 = W) (hW : ofOk W = true ∧ ofF W 0 = x) (hx : x.op = 12 ∨ x.op = 13) {p o : Int} (hp : 0 ≤ p ∧ p < 128) (ho : 0 ≤ o ∧ o < 16) (ha : w32 (rg r x.b + w32 x.c) = 16 * p + o) :
    (wkOk M 0 (16 * p + o) (decide (x.op = 13)) false = true → stepM true (shM M r i d now w) = if x.op = 13 then shM (wr M (enF (rd M (16 + p)) * 16 + o) (rg r x.a)) r (i + 1) d (now + 1) w else shM M (r.set x.a.toNat (rd M (enF (rd M (16 + p)) * 16 + o))) (i + 1) d (now + 1) w) ∧
    (wkOk M 0 (16 * p + o) (decide (x.op = 13)) false = false → stepM true (shM M r i d now w) = { shM M r i d now w with d := dEnd d 4 1, over := true, now := now + 1 }) := by
  have hl : isaTwo x.op = false ∧ isaClass x.op = 1 ∧ plainM x = true := by rcases hx with h | h <;> (unfold plainM; rw [h]; decide)
  have F : fetchS (shM M r i d now w).l 0 (shM M r i d now w).c.pc false = ⟨0, 0, x, 1⟩ := H.fetch1 hi (by rw [hw]; exact hW.1) (by rw [hw]; exact hW.2) hl.1
  have hw' : IntKind.i64.wrap ((shM M r i d now w).now + 1) = now + 1 := w64 hn
  have hpc : w32 ((shM M r i d now w).c.pc + 1) = 2048 + ((i + 1 : Nat) : Int) := pc1 hi
  have eA : plainA (shM M r i d now w).c ⟨0, 0, x, 1⟩ = 16 * p + o := ha
  have ok : plainOk (shM M r i d now w).l 0 (shM M r i d now w).c false ⟨0, 0, x, 1⟩ = wkOk M 0 (16 * p + o) (decide (x.op = 13)) false := by unfold plainOk; rw [eA]; rfl
  obtain ⟨_, A⟩ := H.page hp ho (decide (x.op = 13))
  refine ⟨fun hk => ?_, fun hk => ?_⟩
  · have at_ : plainAt (shM M r i d now w).l 0 (shM M r i d now w).c false ⟨0, 0, x, 1⟩ = enF (rd M (16 + p)) * 16 + o := by unfold plainAt; rw [eA]; exact A hk
    have hS : plainS (shM M r i d now w).l 0 (shM M r i d now w).c false ⟨0, 0, x, 1⟩ = ⟨0, 0, x, 1⟩ := by rw [plainS_def, ok, hk]; simp
    have hC : plainC (shM M r i d now w).l 0 (shM M r i d now w).c false ⟨0, 0, x, 1⟩ = { (shM M r i d now w).c with pc := 2048 + ((i + 1 : Nat) : Int), r := if x.op = 13 then r else r.set x.a.toNat (rd M (enF (rd M (16 + p)) * 16 + o)) } := by
      rw [plainC_def, if_pos hl.2.2, if_neg (by rw [ok, hk]; simp), at_, hpc]; rfl
    have hL : plainL (shM M r i d now w).l 0 (shM M r i d now w).c false ⟨0, 0, x, 1⟩ = if x.op = 13 then wr M (enF (rd M (16 + p)) * 16 + o) (rg r x.a) else M := by
      rw [plainL_def, ok, hk, at_]; simp only [and_true]; rfl
    rw [step_go true rfl sh_quiet, go_plain true F rfl hl.2.1 (by rw [hS]), hC, hL, hw']
    rcases hx with h | h <;> simp [shM, h]
  · have hS : plainS (shM M r i d now w).l 0 (shM M r i d now w).c false ⟨0, 0, x, 1⟩ = ⟨1, 16 * p + o, x, 1⟩ := by rw [plainS_def, if_pos ⟨hl.2.2, by rw [ok, hk]⟩, eA]
    have hC : plainC (shM M r i d now w).l 0 (shM M r i d now w).c false ⟨0, 0, x, 1⟩ = (shM M r i d now w).c := by rw [plainC_def, if_pos hl.2.2, if_pos (by rw [ok, hk])]
    have hL : plainL (shM M r i d now w).l 0 (shM M r i d now w).c false ⟨0, 0, x, 1⟩ = M := by rw [plainL_def, ok, hk]; simp; rfl
    have k : onceK (⟨0, 0, x, 1⟩ : Stp) = 1 := by unfold onceK; rw [if_neg (by simp)]; exact hl.2.1
    have e1 : onceS (shM M r i d now w).l 0 (shM M r i d now w).c false = ⟨1, 16 * p + o, x, 1⟩ := by rw [onceS_def]; simp [F, k, hS]
    have e2 : onceL (shM M r i d now w).l 0 (shM M r i d now w).c false = M := by rw [onceL_def]; simp [F, k, hL]
    have g : goM true (shM M r i d now w) = enterM (shM M r i d now w) 1 (16 * p + o) := by
      rw [goM_def]; unfold goM0
      rw [e1, e2]; simp; rfl
    rw [step_go true rfl sh_quiet, g, hw', enterM_def]
    rfl
end
end Go.Fac
namespace Go.Fac
open Go.RowKit Go.Sy
def qF (x : Int) : Int := x % 24
def qW (x : Int) : Int := qF x * 256 + 3
def qIn (x : Int) : Bool := decide (17 ≤ qF x)
def codeQ0 (page : Int) (l : List Int) : Nat → List Int
  | 0 => [235077632, page]
  | j + 1 => codeQ0 page l j ++ [235143168, qW (l.getD j 0), 688063488]
def codeQ (page : Int) (l : List Int) : List Int := codeQ0 page l l.length ++ [704643072]
def nQ (l : List Int) : Nat → Nat
  | 0 => 0
  | j + 1 => if qIn (l.getD j 0) = true then (if nQ l j = 16 then 1 else nQ l j + 1) else nQ l j
def lastQ (l : List Int) : Nat → Int
  | 0 => -1
  | j + 1 => if qIn (l.getD j 0) = true then qF (l.getD j 0) else lastQ l j
def wantQ (page last : Int) : Int := if 0 ≤ last then last * 256 + 3 else (17 + page) * 256 + 7
theorem codeQ0_len (page : Int) (l : List Int) : ∀ j, (codeQ0 page l j).length = 2 + 3 * j
  | 0 => rfl
  | j + 1 => by rw [codeQ0, List.length_append, codeQ0_len page l j]; simp; omega
theorem codeQ0_pre (page : Int) (l : List Int) (j : Nat) : ∀ k, ∃ r, codeQ0 page l (j + k) = codeQ0 page l j ++ r
  | 0 => ⟨[], by simp⟩
  | k + 1 => by
    obtain ⟨r, h⟩ := codeQ0_pre page l j k
    exact ⟨_, by rw [show j + (k + 1) = (j + k) + 1 by omega, codeQ0, h, List.append_assoc]⟩
theorem codeQ_at {page : Int} {l : List Int} {j : Nat} (hj : j < l.length) {t : Nat} (ht : t < 3) : (codeQ page l).getD (2 + 3 * j + t) 0 = ([235143168, qW (l.getD j 0), 688063488] : List Int).getD t 0 := by
  obtain ⟨r, h⟩ := codeQ0_pre page l (j + 1) (l.length - (j + 1))
  rw [show j + 1 + (l.length - (j + 1)) = l.length by omega] at h
  have hl := codeQ0_len page l j
  unfold codeQ
  rw [h, codeQ0, List.append_assoc, List.append_assoc, List.getD_eq_getElem?_getD, List.getElem?_append_right (by omega), hl, show 2 + 3 * j + t - (2 + 3 * j) = t by omega, List.getElem?_append_left (by simpa using ht), ← List.getD_eq_getElem?_getD]
theorem codeQ_head (page : Int) (l : List Int) : (codeQ page l).getD 0 0 = 235077632 ∧ (codeQ page l).getD 1 0 = page := by
  obtain ⟨r, h⟩ := codeQ0_pre page l 0 l.length
  rw [Nat.zero_add] at h
  unfold codeQ
  rw [h]; exact ⟨rfl, rfl⟩
theorem codeQ_end (page : Int) (l : List Int) : (codeQ page l).getD (2 + 3 * l.length) 0 = 704643072 := by
  have hl := codeQ0_len page l l.length
  unfold codeQ
  rw [List.getD_eq_getElem?_getD, List.getElem?_append_right (by omega), hl]; simp
theorem nQ_le (l : List Int) : ∀ j, nQ l j ≤ 16
  | 0 => Nat.zero_le _
  | j + 1 => by have := nQ_le l j; rw [nQ]; repeat' split
                all_goals omega
theorem sync_code {code : List Int} {page : Int} (hp : 0 ≤ page ∧ page < 128) : ∀ {us : List (Int × Int)} {M : List Int}, Code8 M code → (∀ u ∈ us, u.1 = page) → Code8 (syncL M us) code
  | [], M, h, _ => h
  | (p, w) :: us, M, h, hu => by
    have e : p = page := hu (p, w) (List.mem_cons_self ..)
    subst e
    show Code8 (syncL (updL M (p, w)) us) code
    exact sync_code (us := us) hp (h.upd_ok hp.1 hp.2) fun u m => hu u (List.mem_cons_of_mem _ m)
theorem sync_rd {code M : List Int} {page : Int} {us : List (Int × Int)} (H : Code8 M code) (hp : 0 ≤ page ∧ page < 128) (hu : ∀ u ∈ us, u.1 = page) (x : Int) : rd (syncL M (us ++ [(page, x)])) (16 + page) = x := by
  have h := sync_code hp H hu
  rw [syncL_snoc, h.upd hp.1 hp.2, rd_wr (inM_iff.2 (by rw [h.len]; omega)), if_pos rfl]
def startQ (page : Int) (l : List Int) : Mc := bare0 (codeQ page l) (cpuAt 2048 0)
structure Q8 (page : Int) (l : List Int) (j : Nat) (M r : List Int) (w : List (Int × Int)) : Prop where
  mem : Code8 M (codeQ page l)
  len : r.length = 16
  reg : rg r 3 = page
  pg : ∀ u ∈ w, u.1 = page
  n : w.length = nQ l j
  val : rd (syncL M w) (16 + page) = wantQ page (lastQ l j)
theorem lastQ_in (l : List Int) : ∀ j, lastQ l j = -1 ∨ (17 ≤ lastQ l j ∧ lastQ l j < 24)
  | 0 => .inl rfl
  | j + 1 => by
    rw [lastQ]; split
    · rename_i h
      have h : 17 ≤ qF (l.getD j 0) := of_decide_eq_true h
      have := Int.emod_lt_of_pos (l.getD j 0) (show (0 : Int) < 24 by decide)
      exact .inr ⟨h, this⟩
    · exact lastQ_in l j
section
variable {page : Int} {l : List Int} (hp : 0 ≤ page ∧ page < 3) (hl : l.length ≤ 40)
include hp hl
theorem q_one {j : Nat} (hj : j < l.length) {M r : List Int} {w : List (Int × Int)} (H : Q8 page l j M r w) : stepM true (shM M r (2 + 3 * j) Dv.nul (1 + 2 * (j : Int)) w) = shM M (r.set 4 (qW (l.getD j 0))) (2 + 3 * j + 2) Dv.nul (1 + 2 * (j : Int) + 1) w := by
  have c0 := codeQ_at (page := page) hj (t := 0) (by decide)
  have c1 := codeQ_at (page := page) hj (t := 1) (by decide)
  have := sh_li (r := r) (d := Dv.nul) (now := 1 + 2 * (j : Int)) (w := w) H.mem (i := 2 + 3 * j) (by omega) (by omega) (a := 4) (W := 235143168) c0 ⟨by decide +kernel, by decide +kernel⟩
  rw [this, c1]; rfl
theorem q_two {j : Nat} (hj : j < l.length) {M r : List Int} {w : List (Int × Int)} (H : Q8 page l j M r w) : ∃ M' w', stepM true (shM M (r.set 4 (qW (l.getD j 0))) (2 + 3 * j + 2) Dv.nul (1 + 2 * (j : Int) + 1) w) = shM M' (r.set 4 (qW (l.getD j 0))) (2 + 3 * (j + 1)) Dv.nul (1 + 2 * ((j + 1 : Nat) : Int)) w' ∧ Q8 page l (j + 1) M' (r.set 4 (qW (l.getD j 0))) w' := by
  have c2 := codeQ_at (page := page) hj (t := 2) (by decide)
  have g4 : rg (r.set 4 (qW (l.getD j 0))) 4 = qW (l.getD j 0) := rg_set (r := r) (k := 4) (a := 4) H.len (by decide)
  have g3 : rg (r.set 4 (qW (l.getD j 0))) 3 = page := (rg_set (r := r) (k := 4) (a := 3) H.len (by decide)).trans H.reg
  have hlen : (r.set 4 (qW (l.getD j 0))).length = 16 := by rw [List.length_set]; exact H.len
  have f0 := Int.emod_nonneg (l.getD j 0) (show (24 : Int) ≠ 0 by decide)
  have f1 := Int.emod_lt_of_pos (l.getD j 0) (show (0 : Int) < 24 by decide)
  have hs := sh_spte (r := r.set 4 (qW (l.getD j 0))) (d := Dv.nul) (now := 1 + 2 * (j : Int) + 1) (w := w) H.mem (i := 2 + 3 * j + 2) (by omega) (by omega) (a := 3) (b := 4) (W := 688063488) c2 ⟨by decide +kernel, by decide +kernel⟩
  rw [g3, g4] at hs
  generalize hR : r.set 4 (qW (l.getD j 0)) = R at *
  have hm : mayB 24 page (qW (l.getD j 0)) = qIn (l.getD j 0) := by
    obtain ⟨e1, e2, e3, _⟩ := en_word (f := qF (l.getD j 0)) (k := 3) (by unfold qF; omega) (.inl rfl)
    unfold mayB qW qIn
    rw [e1, e2, e3, decide_eq_true hp.1, decide_eq_true (by omega : page < 128), decide_eq_true (by unfold qF; omega : qF (l.getD j 0) < 24)]; simp
  rw [hm] at hs
  have hn := nQ_le l j
  have hw := H.n
  have en : (1 + 2 * (j : Int) + 1 + 1) = 1 + 2 * ((j + 1 : Nat) : Int) := by omega
  have ei : 2 + 3 * j + 2 + 1 = 2 + 3 * (j + 1) := by omega
  rw [en, ei] at hs
  have hpp : 0 ≤ page ∧ page < 128 := by omega
  have hwant : qIn (l.getD j 0) = true → wantQ page (lastQ l (j + 1)) = qW (l.getD j 0) := fun h => by
    rw [lastQ, if_pos h]; unfold wantQ qW; rw [if_pos (by unfold qF; omega)]
  cases hq : qIn (l.getD j 0) with
  | false =>
    rw [hq, if_neg (by simp)] at hs
    exact ⟨M, w, hs, H.mem, hlen, g3, H.pg, by rw [nQ, if_neg (by rw [hq]; simp)]; exact hw, by rw [lastQ, if_neg (by rw [hq]; simp)]; exact H.val⟩
  | true =>
    rw [hq, if_pos rfl] at hs
    by_cases h16 : nQ l j = 16
    · rw [if_pos (by omega)] at hs
      refine ⟨syncL M w, [(page, qW (l.getD j 0))], hs, sync_code hpp H.mem H.pg, hlen, g3, fun u m => by simp at m; rw [m], by rw [nQ, if_pos hq, if_pos h16]; rfl, ?_⟩
      rw [hwant hq]
      exact sync_rd (us := []) (sync_code hpp H.mem H.pg) hpp (fun u m => by cases m) _
    · rw [if_neg (by omega)] at hs
      refine ⟨M, w ++ [(page, qW (l.getD j 0))], hs, H.mem, hlen, g3, fun u m => ?_, by rw [List.length_append, hw, nQ, if_pos hq, if_neg h16]; rfl, ?_⟩
      · rcases List.mem_append.1 m with m | m
        · exact H.pg u m
        · simp at m; rw [m]
      · rw [hwant hq]; exact sync_rd H.mem hpp H.pg _
theorem runQ : ∀ j, j ≤ l.length → ∃ M r w, iterM true (startQ page l) (1 + 2 * j) = shM M r (2 + 3 * j) Dv.nul (1 + 2 * (j : Int)) w ∧ Q8 page l j M r w
  | 0, _ => by
    have H := code8 (codeQ page l)
    obtain ⟨c0, c1⟩ := codeQ_head page l
    have s := sh_li (r := List.replicate 16 0) (d := Dv.nul) (now := 0) (w := []) H (i := 0) (by omega) (by decide) (a := 3) (W := 235077632) c0 ⟨by decide +kernel, by decide +kernel⟩
    rw [c1] at s
    refine ⟨_, _, _, s, H, rfl, rfl, (fun u m => by cases m), rfl, ?_⟩
    show rd (mem8 24 [] (codeQ page l)) (16 + page) = (17 + page) * 256 + 7
    have l0 : (List.replicate 640 (0 : Int)).length = 640 := List.length_replicate ..
    unfold mem8
    rw [show ((24 + 16 : Int) * 16).toNat = 640 from rfl, show min ([] : List Int).length 48 = 0 from rfl, show min 3 ((24 : Int) - 17).toNat = 3 from rfl, show (16 : Int) * 24 = 384 from rfl]
    have z0 : ∀ (f : Nat → Int) (off : Int) (l : List Int), wrs f off l 0 = l := fun _ _ _ => rfl
    rw [z0, rd_wrs (by decide) (by simp only [wrs_len, l0]; omega), if_neg (by omega), rd_wrs (by decide) (by simp only [wrs_len, l0]; omega), if_neg (by omega), rd_wrs (by decide) (by simp only [wrs_len, l0]; omega), if_pos (by omega), bitsW_val (by omega)]
    simp [b2i]; omega
  | j + 1, hj => by
    obtain ⟨M, r, w, e, H⟩ := runQ j (by omega)
    obtain ⟨M', w', e', H'⟩ := q_two hp hl (by omega : j < l.length) H
    refine ⟨M', _, w', ?_, H'⟩
    rw [← e', ← q_one hp hl (by omega : j < l.length) H, ← e]; rfl
theorem queue_law : (∀ n, 1 ≤ n → n ≤ 1 + 2 * l.length → (iterM true (startQ page l) n).w.length = nQ l ((n - 1) / 2)) ∧
    (iterM true (startQ page l) (2 + 2 * l.length)).w = [] ∧ (iterM true (startQ page l) (2 + 2 * l.length)).over = false ∧ rd (iterM true (startQ page l) (2 + 2 * l.length)).l (16 + page) = wantQ page (lastQ l l.length) := by
  refine ⟨fun n h0 h1 => ?_, ?_⟩
  · obtain ⟨j, h⟩ : ∃ j, n - 1 = 2 * j ∨ n - 1 = 2 * j + 1 := ⟨(n - 1) / 2, by omega⟩
    rcases h with h | h
    · obtain ⟨M, r, w, e, H⟩ := runQ hp hl j (by omega)
      rw [show n = 1 + 2 * j by omega, e, show (1 + 2 * j - 1) / 2 = j by omega]; exact H.n
    · obtain ⟨M, r, w, e, H⟩ := runQ hp hl j (by omega)
      rw [show n = (1 + 2 * j) + 1 by omega, iterM, e, q_one hp hl (by omega : j < l.length) H, show (1 + 2 * j + 1 - 1) / 2 = j by omega]; exact H.n
  · obtain ⟨M, r, w, e, H⟩ := runQ hp hl l.length (Nat.le_refl _)
    have s := sh_sync (r := r) (d := Dv.nul) (now := 1 + 2 * (l.length : Int)) (w := w) H.mem (i := 2 + 3 * l.length) (by omega) (by omega) (codeQ_end page l)
    have e2 : iterM true (startQ page l) (2 + 2 * l.length) = shM (syncL M w) r (2 + 3 * l.length + 1) Dv.nul (1 + 2 * (l.length : Int) + 1) [] := by rw [show 2 + 2 * l.length = (1 + 2 * l.length) + 1 by omega, iterM, e]; exact s
    rw [e2]
    exact ⟨rfl, rfl, H.val⟩
end
def codeP (page frame v : Int) : List Int := [234946560, page, 235012096, frame * 256 + 3, 687931904, 235077632, page + 1, 688062976, 704643072, 235143168, 16 * page, 235208704, v, 218432519, 201720855, 587595776, 235339776, 0, 688064256, 704643072, 201851927]
def startP (page frame v : Int) : Mc := bare0 (codeP page frame v) (cpuAt 2048 0)
theorem mayP {p f : Int} (hp : 0 ≤ p ∧ p < 128) (hf : 17 ≤ f ∧ f < 24) : mayB 24 p (f * 256 + 3) = true ∧ mayB 24 p 0 = true := by
  obtain ⟨e1, e2, e3, _⟩ := en_word (f := f) (k := 3) (by omega) (.inl rfl)
  constructor
  · unfold mayB
    rw [e1, e2, e3, decide_eq_true hp.1, decide_eq_true hp.2, decide_eq_true hf.1, decide_eq_true hf.2]; rfl
  · unfold mayB
    rw [decide_eq_true hp.1, decide_eq_true hp.2]; decide
theorem maps_law {page frame v : Int} (hp : 3 ≤ page ∧ page < 103) (hf : 17 ≤ frame ∧ frame < 24) :
    (iterM true (startP page frame v) 15).over = true ∧ (iterM true (startP page frame v) 15).d.seen = [(1, 0, v), (4, 1, 0)] := by
  have H := code8 (codeP page frame v)
  have H0 := H
  have e0 : startP page frame v = shM (mem8 24 [] (codeP page frame v)) (List.replicate 16 0) 0 Dv.nul 0 [] := rfl
  generalize hM : mem8 24 [] (codeP page frame v) = M at *
  have ok1 : ∀ {W : Int} {x : In5}, (ofOk W && decide (ofF W 0 = x)) = true → ofOk W = true ∧ ofF W 0 = x := fun {W x} h => by
    rw [Bool.and_eq_true, decide_eq_true_eq] at h; exact h
  have f1 := sh_li (r := List.replicate 16 0) (d := Dv.nul) (now := 0) (w := []) H (i := 0) (by decide) (by decide) (a := 1) (W := 234946560) rfl (ok1 (by decide +kernel))
  generalize h1 : (List.replicate 16 (0 : Int)).set (Int.toNat 1) ((codeP page frame v).getD (0 + 1) 0) = r1 at f1
  have f2 := sh_li (r := r1) (d := Dv.nul) (now := 0 + 1) (w := []) H (i := 0 + 2) (by decide) (by decide) (a := 2) (W := 235012096) rfl (ok1 (by decide +kernel))
  generalize h2 : r1.set (Int.toNat 2) ((codeP page frame v).getD (0 + 2 + 1) 0) = r2 at f2
  have l1 : r1.length = 16 := by rw [← h1]; rfl
  have l2 : r2.length = 16 := by rw [← h2, List.length_set]; exact l1
  have a1 : rg r2 1 = page := by rw [← h2]; exact (rg_set (r := r1) (k := 2) (a := 1) l1 (by decide)).trans (by rw [← h1]; exact rg_set (r := List.replicate 16 0) (k := 1) (a := 1) rfl (by decide))
  have a2 : rg r2 2 = frame * 256 + 3 := by rw [← h2]; exact rg_set (r := r1) (k := 2) (a := 2) l1 (by decide)
  obtain ⟨m1, _⟩ := mayP (p := page) (f := frame) (by omega) hf
  obtain ⟨m2, m3⟩ := mayP (p := page + 1) (f := frame) (by omega) hf
  have f3 := sh_spte (r := r2) (d := Dv.nul) (now := 0 + 1 + 1) (w := []) H (i := 0 + 2 + 2) (by decide) (by decide) (a := 1) (b := 2) (W := 687931904) rfl (ok1 (by decide +kernel))
  rw [a1, a2, m1, if_pos rfl, if_neg (by decide)] at f3
  have f4 := sh_li (r := r2) (d := Dv.nul) (now := 0 + 1 + 1 + 1) (w := [] ++ [(page, frame * 256 + 3)]) H (i := 0 + 2 + 2 + 1) (by decide) (by decide) (a := 3) (W := 235077632) rfl (ok1 (by decide +kernel))
  generalize h3 : r2.set (Int.toNat 3) ((codeP page frame v).getD (0 + 2 + 2 + 1 + 1) 0) = r3 at f4
  have l3 : r3.length = 16 := by rw [← h3, List.length_set]; exact l2
  have b3 : rg r3 3 = page + 1 := by rw [← h3]; exact rg_set (r := r2) (k := 3) (a := 3) l2 (by decide)
  have b2 : rg r3 2 = frame * 256 + 3 := by rw [← h3]; exact (rg_set (r := r2) (k := 3) (a := 2) l2 (by decide)).trans a2
  have f5 := sh_spte (r := r3) (d := Dv.nul) (now := 0 + 1 + 1 + 1 + 1) (w := [] ++ [(page, frame * 256 + 3)]) H (i := 0 + 2 + 2 + 1 + 2) (by decide) (by decide) (a := 3) (b := 2) (W := 688062976) rfl (ok1 (by decide +kernel))
  rw [b3, b2, m2, if_pos rfl, if_neg (by simp)] at f5
  have f6 := sh_sync (r := r3) (d := Dv.nul) (now := 0 + 1 + 1 + 1 + 1 + 1) (w := [] ++ [(page, frame * 256 + 3)] ++ [(page + 1, frame * 256 + 3)]) H (i := 0 + 2 + 2 + 1 + 2 + 1) (by decide) (by decide) rfl
  have H1 : Code8 (updL M (page, frame * 256 + 3)) (codeP page frame v) := H.upd_ok (by omega) (by omega)
  have H2 : Code8 (updL (updL M (page, frame * 256 + 3)) (page + 1, frame * 256 + 3)) (codeP page frame v) := H1.upd_ok (by omega) (by omega)
  have eM : syncL M ([] ++ [(page, frame * 256 + 3)] ++ [(page + 1, frame * 256 + 3)]) = updL (updL M (page, frame * 256 + 3)) (page + 1, frame * 256 + 3) := rfl
  have t1 : rd (updL (updL M (page, frame * 256 + 3)) (page + 1, frame * 256 + 3)) (16 + page) = frame * 256 + 3 := by
    rw [H1.upd (by omega) (by omega), rd_wr (inM_iff.2 (by rw [H1.len]; omega)), if_neg (by omega), H.upd (by omega) (by omega), rd_wr (inM_iff.2 (by rw [H.len]; omega)), if_pos rfl]
  have t2 : rd (updL (updL M (page, frame * 256 + 3)) (page + 1, frame * 256 + 3)) (16 + (page + 1)) = frame * 256 + 3 := by
    rw [H1.upd (by omega) (by omega), rd_wr (inM_iff.2 (by rw [H1.len]; omega)), if_pos rfl]
  rw [eM] at f6
  generalize updL (updL M (page, frame * 256 + 3)) (page + 1, frame * 256 + 3) = M2 at *
  obtain ⟨q1, q2, q3, q4⟩ := en_word (f := frame) (k := 3) (by omega) (.inl rfl)
  have f7 := sh_li (r := r3) (d := Dv.nul) (now := 0 + 1 + 1 + 1 + 1 + 1 + 1) (w := []) H2 (i := 0 + 2 + 2 + 1 + 2 + 1 + 1) (by decide) (by decide) (a := 4) (W := 235143168) rfl (ok1 (by decide +kernel))
  generalize h4 : r3.set (Int.toNat 4) ((codeP page frame v).getD (0 + 2 + 2 + 1 + 2 + 1 + 1 + 1) 0) = r4 at f7
  have l4 : r4.length = 16 := by rw [← h4, List.length_set]; exact l3
  have c4 : rg r4 4 = 16 * page := by rw [← h4]; exact rg_set (r := r3) (k := 4) (a := 4) l3 (by decide)
  have c3 : rg r4 3 = page + 1 := by rw [← h4]; exact (rg_set (r := r3) (k := 4) (a := 3) l3 (by decide)).trans b3
  have f8 := sh_li (r := r4) (d := Dv.nul) (now := 0 + 1 + 1 + 1 + 1 + 1 + 1 + 1) (w := []) H2 (i := 0 + 2 + 2 + 1 + 2 + 1 + 1 + 2) (by decide) (by decide) (a := 5) (W := 235208704) rfl (ok1 (by decide +kernel))
  generalize h5 : r4.set (Int.toNat 5) ((codeP page frame v).getD (0 + 2 + 2 + 1 + 2 + 1 + 1 + 2 + 1) 0) = r5 at f8
  have l5 : r5.length = 16 := by rw [← h5, List.length_set]; exact l4
  have d5 : rg r5 5 = v := by rw [← h5]; exact rg_set (r := r4) (k := 5) (a := 5) l4 (by decide)
  have d4 : rg r5 4 = 16 * page := by rw [← h5]; exact (rg_set (r := r4) (k := 5) (a := 4) l4 (by decide)).trans c4
  have d3 : rg r5 3 = page + 1 := by rw [← h5]; exact (rg_set (r := r4) (k := 5) (a := 3) l4 (by decide)).trans c3
  obtain ⟨g9, _⟩ := sh_mem (r := r5) (d := Dv.nul) (now := 0 + 1 + 1 + 1 + 1 + 1 + 1 + 1 + 1) (w := []) H2 (i := 0 + 2 + 2 + 1 + 2 + 1 + 1 + 2 + 2) (by decide) (by decide) (x := ⟨13, 5, 4, 7, 0⟩) (W := 218432519) rfl (ok1 (by decide +kernel)) (.inr rfl) (p := page) (o := 7) (by omega) (by decide) (by
    show w32 (rg r5 4 + w32 7) = _; rw [d4]; show IntKind.u32.wrap (16 * page + IntKind.u32.wrap 7) = _; rw [IntKind.wrap_u32, IntKind.wrap_u32]; omega)
  have f9 := g9 (by
    rw [(H2.page (p := page) (o := 7) (by omega) (by decide) _).1, t1, q2, q3, q4]; simp; omega)
  rw [if_pos (show (13 : Int) = 13 from rfl), t1, q2] at f9
  have d5' : rg r5 (In5.a ⟨13, 5, 4, 7, 0⟩) = v := d5
  rw [d5'] at f9
  have H3 : Code8 (Fac.wr M2 (frame * 16 + 7) v) (codeP page frame v) := H2.wr (by omega) v
  have u1 : rd (Fac.wr M2 (frame * 16 + 7) v) (16 + (page + 1)) = frame * 256 + 3 := by rw [rd_wr (inM_iff.2 (by rw [H2.len]; omega)), if_neg (by omega)]; exact t2
  have u2 : rd (Fac.wr M2 (frame * 16 + 7) v) (frame * 16 + 7) = v := by rw [rd_wr (inM_iff.2 (by rw [H2.len]; omega)), if_pos rfl]
  generalize Fac.wr M2 (frame * 16 + 7) v = M3 at *
  obtain ⟨g10, _⟩ := sh_mem (r := r5) (d := Dv.nul) (now := 0 + 1 + 1 + 1 + 1 + 1 + 1 + 1 + 1 + 1) (w := []) H3 (i := 0 + 2 + 2 + 1 + 2 + 1 + 1 + 2 + 2 + 1) (by decide) (by decide) (x := ⟨12, 6, 4, 23, 0⟩) (W := 201720855) rfl (ok1 (by decide +kernel)) (.inl rfl) (p := page + 1) (o := 7) (by omega) (by decide) (by
    show w32 (rg r5 4 + w32 23) = _; rw [d4]; show IntKind.u32.wrap (16 * page + IntKind.u32.wrap 23) = _; rw [IntKind.wrap_u32, IntKind.wrap_u32]; omega)
  have f10 := g10 (by
    rw [(H3.page (p := page + 1) (o := 7) (by omega) (by decide) _).1, u1, q2, q3]; simp; omega)
  rw [if_neg (show ¬ (12 : Int) = 13 by decide), u1, q2, u2] at f10
  generalize h6 : r5.set (In5.a ⟨12, 6, 4, 23, 0⟩).toNat v = r6 at f10
  have l6 : r6.length = 16 := by rw [← h6, List.length_set]; exact l5
  have e6 : rg r6 6 = v := by rw [← h6]; exact rg_set (r := r5) (k := 6) (a := 6) l5 (by decide)
  have e4 : rg r6 4 = 16 * page := by rw [← h6]; exact (rg_set (r := r5) (k := 6) (a := 4) l5 (by decide)).trans d4
  have e3 : rg r6 3 = page + 1 := by rw [← h6]; exact (rg_set (r := r5) (k := 6) (a := 3) l5 (by decide)).trans d3
  have f11 := sh_dev (M := M3) (r := r6) (i := 0 + 2 + 2 + 1 + 2 + 1 + 1 + 2 + 2 + 1 + 1) (d := Dv.nul) (now := 0 + 1 + 1 + 1 + 1 + 1 + 1 + 1 + 1 + 1 + 1) (w := []) (x := ⟨35, 6, 0, 0, 0⟩) H3 (by decide) (by decide) (W := 587595776) rfl (ok1 (by decide +kernel)) (by decide) (.inl (by decide)) (by decide) (by decide) (by decide) (by decide) (r' := r6) (d' := dOut Dv.nul v) rfl (by
    rw [doD_def]
    show dOut _ (rg r6 6) = _
    rw [e6])
  have f12 := sh_li (r := r6) (d := dOut Dv.nul v) (now := 0 + 1 + 1 + 1 + 1 + 1 + 1 + 1 + 1 + 1 + 1 + 1) (w := []) H3 (i := 0 + 2 + 2 + 1 + 2 + 1 + 1 + 2 + 2 + 1 + 1 + 1) (by decide) (by decide) (a := 7) (W := 235339776) rfl (ok1 (by decide +kernel))
  generalize h7 : r6.set (Int.toNat 7) ((codeP page frame v).getD (0 + 2 + 2 + 1 + 2 + 1 + 1 + 2 + 2 + 1 + 1 + 1 + 1) 0) = r7 at f12
  have l7 : r7.length = 16 := by rw [← h7, List.length_set]; exact l6
  have k7 : rg r7 7 = 0 := by rw [← h7]; exact rg_set (r := r6) (k := 7) (a := 7) l6 (by decide)
  have k4 : rg r7 4 = 16 * page := by rw [← h7]; exact (rg_set (r := r6) (k := 7) (a := 4) l6 (by decide)).trans e4
  have k3 : rg r7 3 = page + 1 := by rw [← h7]; exact (rg_set (r := r6) (k := 7) (a := 3) l6 (by decide)).trans e3
  have f13 := sh_spte (r := r7) (d := dOut Dv.nul v) (now := 0 + 1 + 1 + 1 + 1 + 1 + 1 + 1 + 1 + 1 + 1 + 1 + 1) (w := []) H3 (i := 0 + 2 + 2 + 1 + 2 + 1 + 1 + 2 + 2 + 1 + 1 + 1 + 2) (by decide) (by decide) (a := 3) (b := 7) (W := 688064256) rfl (ok1 (by decide +kernel))
  rw [k3, k7, m3, if_pos rfl, if_neg (by decide)] at f13
  have f14 := sh_sync (r := r7) (d := dOut Dv.nul v) (now := 0 + 1 + 1 + 1 + 1 + 1 + 1 + 1 + 1 + 1 + 1 + 1 + 1 + 1) (w := [] ++ [(page + 1, 0)]) H3 (i := 0 + 2 + 2 + 1 + 2 + 1 + 1 + 2 + 2 + 1 + 1 + 1 + 2 + 1) (by decide) (by decide) rfl
  have eM3 : syncL M3 ([] ++ [(page + 1, 0)]) = updL M3 (page + 1, 0) := rfl
  have H4 : Code8 (updL M3 (page + 1, 0)) (codeP page frame v) := H3.upd_ok (by omega) (by omega)
  have v1 : rd (updL M3 (page + 1, 0)) (16 + (page + 1)) = 0 := by rw [H3.upd (by omega) (by omega), rd_wr (inM_iff.2 (by rw [H3.len]; omega)), if_pos rfl]
  rw [eM3] at f14
  generalize updL M3 (page + 1, 0) = M4 at *
  obtain ⟨_, g15⟩ := sh_mem (r := r7) (d := dOut Dv.nul v) (now := 0 + 1 + 1 + 1 + 1 + 1 + 1 + 1 + 1 + 1 + 1 + 1 + 1 + 1 + 1) (w := []) H4 (i := 0 + 2 + 2 + 1 + 2 + 1 + 1 + 2 + 2 + 1 + 1 + 1 + 2 + 1 + 1) (by decide) (by decide) (x := ⟨12, 8, 4, 23, 0⟩) (W := 201851927) rfl (ok1 (by decide +kernel)) (.inl rfl) (p := page + 1) (o := 7) (by omega) (by decide) (by
    show w32 (rg r7 4 + w32 23) = _; rw [k4]; show IntKind.u32.wrap (16 * page + IntKind.u32.wrap 23) = _; rw [IntKind.wrap_u32, IntKind.wrap_u32]; omega)
  have f15 := g15 (by
    rw [(H4.page (p := page + 1) (o := 7) (by omega) (by decide) _).1, v1]; rfl)
  have g := ((congrArg (stepM true) ((congrArg (stepM true) ((congrArg (stepM true) ((congrArg (stepM true) ((congrArg (stepM true) ((congrArg (stepM true) ((congrArg (stepM true) ((congrArg (stepM true) ((congrArg (stepM true) ((congrArg (stepM true) ((congrArg (stepM true) ((congrArg (stepM true) ((congrArg (stepM true) ((congrArg (stepM true) f1).trans f2)).trans f3)).trans f4)).trans f5)).trans f6)).trans f7)).trans f8)).trans f9)).trans f10)).trans f11)).trans f12)).trans f13)).trans f14)).trans f15)
  have chain := (congrArg (fun b => iterM true b 15) e0).trans g
  exact ⟨congrArg Mc.over chain, congrArg (fun b => b.d.seen) chain⟩
end Go.Fac

