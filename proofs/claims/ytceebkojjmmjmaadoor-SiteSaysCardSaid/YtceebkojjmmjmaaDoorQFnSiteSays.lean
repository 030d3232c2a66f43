/- Contracts that the proofs use. -/
import Derived.Test.YtceebkojjmmjmaaDoorQFnRef9f
import Derived.Test.YtceebkojjmmjmaaDoorQFnOwn
import Derived.Test.YtceebkojjmmjmaaDoorQFnLawI
set_option linter.unusedVariables false
set_option linter.unusedSimpArgs false
set_option linter.unusedSectionVars false
namespace Go.Proofs.YtceebkojjmmjmaaDoor
open Go.RowKit Go.Sy Go.Fac
theorem sfs_app (c m l l' : List Int) : sitesF c m (l ++ l') = sitesF c m l ++ sitesF c m l' := by simp [sitesF]
theorem sfs_one (c m : List Int) (a : Int) : sitesF c m [a] = siteOf c m a := by simp [sitesF]
theorem ins_at {c m : List Int} (hl : m.length = c.length) {i : Nat} (hi : i < c.length) (hm : m.getD i 0 = 1) : insI c m i = inS c i := by
  have : begM c m (i : Int) = true := by
    unfold begM
    rw [Int.toNat_natCast, hm, decide_eq_false (by omega : ¬ (i : Int) < 0), decide_eq_false (by omega : ¬ (c.length : Int) ≤ i), decide_eq_false (by omega : ¬ (m.length : Int) ≤ i)]
    simp
  unfold insI inS
  rw [if_pos this, Int.toNat_natCast]
theorem lines_eq {c m : List Int} (hl : m.length = c.length) : ∀ i, i ≤ c.length → linesF c m i = refLines c m i
  | 0, _ => rfl
  | i + 1, hi => by
    rw [linesF, refLines, lines_eq hl i (by omega)]
    unfold lineOf refLine
    by_cases h1 : m.getD i 0 = 1
    · rw [if_pos h1, if_pos h1, ins_at hl (by omega) h1]
    · rw [if_neg h1, if_neg h1]
      by_cases h2 : m.getD i 0 = 2
      · rw [if_pos h2, if_pos h2, ← ByteArray.append_assoc]; rfl
      · rw [if_neg h2, if_neg h2]
theorem sites_eq {c m : List Int} (hl : m.length = c.length) : ∀ i, i ≤ c.length → sitesF c m (startsF c m i) = s9 c m i
  | 0, _ => rfl
  | i + 1, hi => by
    have ih := sites_eq hl i (by omega)
    rw [startsF, s9]
    by_cases h1 : m.getD i 0 = 1
    · rw [if_pos ⟨h1, by omega⟩, sfs_app, sfs_one, ih]
      unfold siteOf isS
      rw [ins_at hl (by omega) h1, decide_eq_true h1]
      simp only [Bool.true_and]
      split <;> simp
    · rw [if_neg (fun h => h1 h.1), ih, if_neg]
      unfold isS; rw [decide_eq_false h1]; simp
theorem start_class {d c m : List Int} {dr cr : List Rel} {sy : List Sm} (hv : (validE d c m dr cr sy).isErr = false) {i : Nat} (hi : i < c.length) (hm : m.getD i 0 = 1) : isaClass (inS c i).op ≠ 0 := by
  obtain ⟨v1, v2, v3, v4, v5, v6, v7, _⟩ := valid_size hv
  have h9 := code9_of v2 v7
  have h := (h9.one i hi hm).1
  unfold insB at h
  simp only [Bool.and_eq_true, Int.toNat_natCast] at h
  have ho := h.2
  unfold inS ofF
  rw [if_pos ho]
  unfold ofOk wordOk at ho
  simp only [Bool.and_eq_true, Bool.not_eq_true'] at ho
  simpa using ho.1.1.1.1
theorem senN_in {n : Int} (h : 101 ≤ n ∧ n ≤ 116) : senN (.bare n) = n := by unfold senN; simp only; rw [if_pos h]
theorem fc_first {b : Nat → Int} (hb : ∀ i, b i = 0 ∨ (101 ≤ b i ∧ b i ≤ 116)) : ∀ n, fcode (firstE (fun i => badE (b i)) n) = codeN (firstE (fun i => badE (b i)) n)
  | 0 => rfl
  | n + 1 => by
    rw [firstE]
    by_cases e : (firstE (fun i => badE (b i)) n).isErr = true
    · rw [if_pos e]; exact fc_first hb n
    · rw [if_neg e]
      by_cases g : b n = 0
      · have : badE (b n) = .fine := by unfold badE; rw [if_pos g]
        rw [this]; rfl
      · have : badE (b n) = .bare (b n) := by unfold badE; rw [if_neg g]
        rw [this, if_pos (show (FErr.bare (b n)).isErr = true from rfl)]
        exact senN_in ((hb n).resolve_left g)
theorem dup9_rng (sy : List Sm) (o : Nat) : ∀ n, dup9 sy o n = 0 ∨ (101 ≤ dup9 sy o n ∧ dup9 sy o n ≤ 116)
  | 0 => by rw [dup9]; unfold nam9; split <;> omega
  | n + 1 => by
    have := dup9_rng sy o n
    rw [dup9]; split
    · split <;> omega
    · exact this
theorem fc_full (d c m : List Int) (dr cr : List Rel) (sy : List Sm) : fcode (validE d c m dr cr sy) = codeN (validE d c m dr cr sy) := by
  rw [← full9_eq]
  have h1 := fc_first (b := bad9 c m) (fun i => by unfold bad9; (repeat' split) <;> omega) c.length
  have h2 := fc_first (b := bsy9 d c m sy) (fun i => by
    have := dup9_rng sy i i
    unfold bsy9; split
    · split <;> omega
    · exact this) sy.length
  have h3 := fc_first (b := bdr9 d dr sy) (fun i => by unfold bdr9; (repeat' split) <;> omega) dr.length
  have h4 := fc_first (b := bcr9 c m cr sy) (fun i => by unfold bcr9; (repeat' split) <;> omega) cr.length
  have h5 := fc_first (b := bnd9 c m cr) (fun i => by unfold bnd9; (repeat' split) <;> omega) c.length
  unfold full9
  split
  · exact senN_in (n := 104) (by omega)
  · split
    · exact senN_in (n := 109) (by omega)
    · unfold vld9 bas9
      (repeat' split) <;> first | exact h1 | exact h2 | exact h3 | exact h4 | exact h5
theorem err_code {d c m : List Int} {dr cr : List Rel} {sy : List Sm} (h : codeN (validE d c m dr cr sy) = 0) : (validE d c m dr cr sy).isErr = false := by
  rw [← fc_full] at h
  have hz := senN_ne
  cases e : validE d c m dr cr sy with
  | fine => rfl
  | bare n => rw [e] at h; exact (hz (.bare n) h).elim
  | placed n q => rw [e] at h; exact (hz (.bare n) h).elim
section
variable {ea : Ear} {has : Int → Prop} {rest : List (Nat × SVal)} [ht : Nonempty (Tabs ea)]
def kfirst10 : List SVal → Nat → Acc ORes := fun a n => match a with | [] => .ret ({ v := .bool (.lit true) }) | _ => .fail "first10"
theorem argfirst10  : (all (subL tAtN none' [] deep [] [])) = (
  True) := by kernel_rfl
theorem runfirst10 (rest : List (Nat × SVal)) : (Tr.sat (plainQ (.bool (.lit true))) (run (env (G7 ++ (G9 ++ rest)) [(80, kSays), (43, kSites)]) [] (bodyOf Tryd.f41) (start [] 16) (ends (env (G7 ++ (G9 ++ rest)) [(80, kSays), (43, kSites)]) Tryd.f41.results.toList))) = (
  List.length [(1 : Int)] ≤ (10000 : Nat) ∧ (List.length [(1 : Int)] ≤ (10000 : Nat) → true = true)) := by kernel_rfl
set_option maxHeartbeats 4000000 in
theorem cfirst10 : Con ea has (G7 ++ (G9 ++ rest)) 41 kfirst10 := by
  refine plain_mkB Tryd.func41 16 (con := [(80, kSays), (43, kSites)]) ⟨cSays, cSites, trivial⟩ (fun hA hr hv => ?_) (by kernel_rfl) (by kernel_rfl) Tryd.ntmps41
  unfold kfirst10 at hr; split at hr
  · skip
    have := ret_ok hr; subst this
    refine ⟨_, [], rfl, rfl, .of (argfirst10 ) (by simp), rfl, (fun W R ρ0 own0 hown => noSums (by kernel_rfl)), .of (runfirst10 rest ) ?_⟩
    clear hr
    exact ⟨by decide, fun _ => rfl⟩
  · cases hr
def stM (m : List Int) : Nat → List Int
  | 0 => []
  | i + 1 => if m.getD i 0 = 1 then stM m i ++ [(i : Int)] else stM m i
theorem stM_len (m : List Int) : ∀ i, (stM m i).length ≤ i
  | 0 => Nat.le_refl _
  | i + 1 => by
    have := stM_len m i
    rw [stM]; split
    · rw [List.length_append]; simp only [List.length_singleton]; omega
    · omega
theorem st_eq {c m : List Int} (hl : m.length = c.length) : ∀ i, i ≤ c.length → startsF c m i = stM m i
  | 0, _ => rfl
  | i + 1, hi => by
    rw [startsF, stM, st_eq hl i (by omega)]
    by_cases h1 : m.getD i 0 = 1
    · rw [if_pos ⟨h1, by omega⟩, if_pos h1]
    · rw [if_neg (fun h => h1 h.1), if_neg h1]
abbrev kfIB := bor [.ro .i64, .ro .i64] kfI
theorem cfIB : Con ea has (G7 ++ (G9 ++ rest)) 48 kfIB := bor_ok cfI _
def HssA (d c m : List Int) (dr cr : List Rel) (sy : List Sm) (S : List St) (i : Nat) : SState := { fr := [(1, .ptr 0 0), (3, .bool (.lit true)), (5, .ro .site S), (9, .ro .site S), (10, .int .i64 (.sym i 0 1000000))], hp := [(0, obBox d c m dr cr sy)], next := 1, sz := 138 }
def XssA (d c m : List Int) (dr cr : List Rel) (sy : List Sm) (S : List St) : SState := { fr := [(1, .ptr 0 0), (3, .bool (.lit true))], hp := [(0, obBox d c m dr cr sy)], next := 1, sz := 138 }
def LssA (d c m : List Int) (dr cr : List Rel) (sy : List Sm) (S : List St) : LSum := ⟨HssA d c m dr cr sy S 0, fun k => k (.exit 0) (XssA d c m dr cr sy S), S.length ≤ 1000000⟩
theorem bssA (rest : List (Nat × SVal)) (d c m : List Int) (dr cr : List Rel) (sy : List Sm) (S : List St) (i : Nat) : (Tr.sat (rnd1 (env (G7 ++ (G9 ++ rest)) [(41, kfirst10), (28, kLight), (42, kValid9), (43, kSites), (44, ksText), (39, kSeeSame), (45, kSites9), (46, kfT), (47, krLines), (13, kSameInstr), (49, kStarts), (48, kfIB)]) (fun _ => True) (S.length) (HssA d c m dr cr sy S) 0 (XssA d c m dr cr sy S) i) (run (env (G7 ++ (G9 ++ rest)) [(41, kfirst10), (28, kLight), (42, kValid9), (43, kSites), (44, ksText), (39, kSeeSame), (45, kSites9), (46, kfT), (47, krLines), (13, kSameInstr), (49, kStarts), (48, kfIB)]) [] (loopN (bodyOf Tryd.f8) 0) (HssA d c m dr cr sy S i) .leaf)) = (
  (decide ((↑i : Int) < (↑(List.length S) : Int)) = true → ((0 : Int) ≤ (↑i : Int) ∧ (↑i : Int) < (↑(List.length S) : Int)) ∧ ((0 : Int) ≤ (↑i : Int) ∧ (↑i : Int) < (↑(List.length S) : Int) → ((0 : Int) ≤ (↑i : Int) ∧ (↑i : Int) < (↑(List.length S) : Int)) ∧ ((0 : Int) ≤ (↑i : Int) ∧ (↑i : Int) < (↑(List.length S) : Int) → ((!!decide ((List.getD S (Int.toNat (↑i : Int)) (RT.dflt RT.site)).at_ = (List.getD S (Int.toNat (↑i : Int)) (RT.dflt RT.site)).at_)) = true → (0 : Int) ≤ (↑i : Int) ∧ (↑i : Int) < (↑(List.length S) : Int)) ∧ (((!!decide ((List.getD S (Int.toNat (↑i : Int)) (RT.dflt RT.site)).at_ = (List.getD S (Int.toNat (↑i : Int)) (RT.dflt RT.site)).at_)) = true → (0 : Int) ≤ (↑i : Int) ∧ (↑i : Int) < (↑(List.length S) : Int)) → ((!!decide ((List.getD S (Int.toNat (↑i : Int)) (RT.dflt RT.site)).at_ = (List.getD S (Int.toNat (↑i : Int)) (RT.dflt RT.site)).at_)) = true → (0 : Int) ≤ (↑i : Int) ∧ (↑i : Int) < (↑(List.length S) : Int)) ∧ (((!!decide ((List.getD S (Int.toNat (↑i : Int)) (RT.dflt RT.site)).at_ = (List.getD S (Int.toNat (↑i : Int)) (RT.dflt RT.site)).at_)) = true → (0 : Int) ≤ (↑i : Int) ∧ (↑i : Int) < (↑(List.length S) : Int)) → ((!(!decide ((List.getD S (Int.toNat (↑i : Int)) (RT.dflt RT.site)).at_ = (List.getD S (Int.toNat (↑i : Int)) (RT.dflt RT.site)).at_) || !decide ((List.getD S (Int.toNat (↑i : Int)) (RT.dflt RT.site)).cls = (List.getD S (Int.toNat (↑i : Int)) (RT.dflt RT.site)).cls))) = true → (0 : Int) ≤ (↑i : Int) ∧ (↑i : Int) < (↑(List.length S) : Int)) ∧ (((!(!decide ((List.getD S (Int.toNat (↑i : Int)) (RT.dflt RT.site)).at_ = (List.getD S (Int.toNat (↑i : Int)) (RT.dflt RT.site)).at_) || !decide ((List.getD S (Int.toNat (↑i : Int)) (RT.dflt RT.site)).cls = (List.getD S (Int.toNat (↑i : Int)) (RT.dflt RT.site)).cls))) = true → (0 : Int) ≤ (↑i : Int) ∧ (↑i : Int) < (↑(List.length S) : Int)) → ((!(!decide ((List.getD S (Int.toNat (↑i : Int)) (RT.dflt RT.site)).at_ = (List.getD S (Int.toNat (↑i : Int)) (RT.dflt RT.site)).at_) || !decide ((List.getD S (Int.toNat (↑i : Int)) (RT.dflt RT.site)).cls = (List.getD S (Int.toNat (↑i : Int)) (RT.dflt RT.site)).cls))) = true → (0 : Int) ≤ (↑i : Int) ∧ (↑i : Int) < (↑(List.length S) : Int)) ∧ (((!(!decide ((List.getD S (Int.toNat (↑i : Int)) (RT.dflt RT.site)).at_ = (List.getD S (Int.toNat (↑i : Int)) (RT.dflt RT.site)).at_) || !decide ((List.getD S (Int.toNat (↑i : Int)) (RT.dflt RT.site)).cls = (List.getD S (Int.toNat (↑i : Int)) (RT.dflt RT.site)).cls))) = true → (0 : Int) ≤ (↑i : Int) ∧ (↑i : Int) < (↑(List.length S) : Int)) → ((!decide ((List.getD S (Int.toNat (↑i : Int)) (RT.dflt RT.site)).at_ = (List.getD S (Int.toNat (↑i : Int)) (RT.dflt RT.site)).at_) || !decide ((List.getD S (Int.toNat (↑i : Int)) (RT.dflt RT.site)).cls = (List.getD S (Int.toNat (↑i : Int)) (RT.dflt RT.site)).cls) || !decide (In5.mk (List.getD S (Int.toNat (↑i : Int)) (RT.dflt RT.site)).i.op (List.getD S (Int.toNat (↑i : Int)) (RT.dflt RT.site)).i.a (List.getD S (Int.toNat (↑i : Int)) (RT.dflt RT.site)).i.b (List.getD S (Int.toNat (↑i : Int)) (RT.dflt RT.site)).i.c (List.getD S (Int.toNat (↑i : Int)) (RT.dflt RT.site)).i.imm = In5.mk (List.getD S (Int.toNat (↑i : Int)) (RT.dflt RT.site)).i.op (List.getD S (Int.toNat (↑i : Int)) (RT.dflt RT.site)).i.a (List.getD S (Int.toNat (↑i : Int)) (RT.dflt RT.site)).i.b (List.getD S (Int.toNat (↑i : Int)) (RT.dflt RT.site)).i.c (List.getD S (Int.toNat (↑i : Int)) (RT.dflt RT.site)).i.imm)) = true → False) ∧ ((!decide ((List.getD S (Int.toNat (↑i : Int)) (RT.dflt RT.site)).at_ = (List.getD S (Int.toNat (↑i : Int)) (RT.dflt RT.site)).at_) || !decide ((List.getD S (Int.toNat (↑i : Int)) (RT.dflt RT.site)).cls = (List.getD S (Int.toNat (↑i : Int)) (RT.dflt RT.site)).cls) || !decide (In5.mk (List.getD S (Int.toNat (↑i : Int)) (RT.dflt RT.site)).i.op (List.getD S (Int.toNat (↑i : Int)) (RT.dflt RT.site)).i.a (List.getD S (Int.toNat (↑i : Int)) (RT.dflt RT.site)).i.b (List.getD S (Int.toNat (↑i : Int)) (RT.dflt RT.site)).i.c (List.getD S (Int.toNat (↑i : Int)) (RT.dflt RT.site)).i.imm = In5.mk (List.getD S (Int.toNat (↑i : Int)) (RT.dflt RT.site)).i.op (List.getD S (Int.toNat (↑i : Int)) (RT.dflt RT.site)).i.a (List.getD S (Int.toNat (↑i : Int)) (RT.dflt RT.site)).i.b (List.getD S (Int.toNat (↑i : Int)) (RT.dflt RT.site)).i.c (List.getD S (Int.toNat (↑i : Int)) (RT.dflt RT.site)).i.imm)) = false → i < List.length S ∧ True ∧ true = true ∧ S = S ∧ S = S ∧ (↑i : Int) + (1 : Int) = (↑(i + (1 : Nat)) : Int) ∧ ((0 : Int) ≤ (↑(i + (1 : Nat)) : Int) ∧ (↑(i + (1 : Nat)) : Int) ≤ (1000000 : Int)) ∧ d = d ∧ c = c ∧ m = m ∧ dr = dr ∧ cr = cr ∧ sy = sy)))))))) ∧ (decide ((↑i : Int) < (↑(List.length S) : Int)) = false → Nat.beq (0 : Nat) (0 : Nat) = true ∧ true = true ∧ d = d ∧ c = c ∧ m = m ∧ dr = dr ∧ cr = cr ∧ sy = sy)) := by kernel_rfl
set_option maxHeartbeats 4000000 in
theorem lssA (d c m : List Int) (dr cr : List Rel) (sy : List Sm) (S : List St) {W : World} {R own0 : Nat → Prop} {ρ0 : Nat → Option Value} (hown : HownOk (env (G7 ++ (G9 ++ rest)) [(41, kfirst10), (28, kLight), (42, kValid9), (43, kSites), (44, ksText), (39, kSeeSame), (45, kSites9), (46, kfT), (47, krLines), (13, kSameInstr), (49, kStarts), (48, kfIB)]) own0 ρ0) : LOk Tryd.prog (env (G7 ++ (G9 ++ rest)) [(41, kfirst10), (28, kLight), (42, kValid9), (43, kSites), (44, ksText), (39, kSeeSame), (45, kSites9), (46, kfT), (47, krLines), (13, kSameInstr), (49, kStarts), (48, kfIB)]) (ctx ea has) (G7 ++ (G9 ++ rest)) W R own0 ρ0 (loopN (bodyOf Tryd.f8) 0) (LssA d c m dr cr sy S) := by
  refine loop1_ok (env_ok (con := [(41, kfirst10), (28, kLight), (42, kValid9), (43, kSites), (44, ksText), (39, kSeeSame), (45, kSites9), (46, kfT), (47, krLines), (13, kSameInstr), (49, kStarts), (48, kfIB)]) ⟨cfirst10, cLight, cValid9, cSites, csText, cSeeSame, cSites9, cfT, crLines, cSameInstr, cStarts, cfIB, trivial⟩) hown (ls := fun i => []) (fun i => noSums (by kernel_rfl)) (fun hm i hi hj => (bssA rest d c m dr cr sy S i).mpr ?_) 0 (fun hm => by first | exact Nat.zero_le _ | omega) (fun hm => trivial)
  refine ⟨fun h => ?_, fun h => ⟨rfl, rfl, rfl, rfl, rfl, rfl, rfl, rfl⟩⟩
  have h := of_decide_eq_true h
  have hlt : (0 : Int) ≤ i ∧ (i : Int) < S.length := by omega
  refine ⟨hlt, fun _ => ⟨hlt, fun _ => ⟨fun _ => hlt, fun _ => ⟨fun _ => hlt, fun _ => ⟨fun _ => hlt, fun _ => ⟨fun _ => hlt, fun _ => ⟨fun h2 => ?_, fun _ => ⟨by omega, trivial, rfl, rfl, rfl, by omega, by omega, rfl, rfl, rfl, rfl, rfl, rfl⟩⟩⟩⟩⟩⟩⟩⟩
  simp at h2
def HssB (d c m : List Int) (dr cr : List Rel) (sy : List Sm) (i : Nat) : SState := { fr := [(1, .ptr 0 0), (3, .bool (.lit true)), (11, .own 1), (12, .int .i64 (.sym i 0 1000000))], hp := [(0, obBox d c m dr cr sy), (1, some (.recs .i64 (stM m i)))], next := 2, sz := 138 }
def XssB (d c m : List Int) (dr cr : List Rel) (sy : List Sm) : SState := { fr := [(1, .ptr 0 0), (3, .bool (.lit true)), (11, .own 1)], hp := [(0, obBox d c m dr cr sy), (1, some (.recs .i64 (stM m m.length)))], next := 2, sz := 138 }
def LssB (d c m : List Int) (dr cr : List Rel) (sy : List Sm) : LSum := ⟨HssB d c m dr cr sy 0, fun k => k (.exit 2) (XssB d c m dr cr sy), m.length ≤ 1000000⟩
theorem bssB (rest : List (Nat × SVal)) (d c m : List Int) (dr cr : List Rel) (sy : List Sm) (i : Nat) : (Tr.sat (rnd1 (env (G7 ++ (G9 ++ rest)) [(41, kfirst10), (28, kLight), (42, kValid9), (43, kSites), (44, ksText), (39, kSeeSame), (45, kSites9), (46, kfT), (47, krLines), (13, kSameInstr), (49, kStarts), (48, kfIB)]) (fun _ => True) (m.length) (HssB d c m dr cr sy) 2 (XssB d c m dr cr sy) i) (run (env (G7 ++ (G9 ++ rest)) [(41, kfirst10), (28, kLight), (42, kValid9), (43, kSites), (44, ksText), (39, kSeeSame), (45, kSites9), (46, kfT), (47, krLines), (13, kSameInstr), (49, kStarts), (48, kfIB)]) [] (loopN (bodyOf Tryd.f8) 1) (HssB d c m dr cr sy i) .leaf)) = (
  (decide ((↑i : Int) < (↑(List.length m) : Int)) = true → ((0 : Int) ≤ (↑i : Int) ∧ (↑i : Int) < (↑(List.length m) : Int)) ∧ ((0 : Int) ≤ (↑i : Int) ∧ (↑i : Int) < (↑(List.length m) : Int) → (decide (List.getD m (Int.toNat (↑i : Int)) (RT.dflt RT.u8) = (1 : Int)) = true → List.length (stM m i) + List.length [(↑i : Int)] ≤ (137438953472 : Nat) ∧ (List.length (stM m i) + List.length [(↑i : Int)] ≤ (137438953472 : Nat) → i < List.length m ∧ True ∧ true = true ∧ (↑i : Int) + (1 : Int) = (↑(i + (1 : Nat)) : Int) ∧ ((0 : Int) ≤ (↑(i + (1 : Nat)) : Int) ∧ (↑(i + (1 : Nat)) : Int) ≤ (1000000 : Int)) ∧ d = d ∧ c = c ∧ m = m ∧ dr = dr ∧ cr = cr ∧ sy = sy ∧ stM m i ++ [(↑i : Int)] = stM m (i + (1 : Nat)))) ∧ (decide (List.getD m (Int.toNat (↑i : Int)) (RT.dflt RT.u8) = (1 : Int)) = false → i < List.length m ∧ True ∧ true = true ∧ (↑i : Int) + (1 : Int) = (↑(i + (1 : Nat)) : Int) ∧ ((0 : Int) ≤ (↑(i + (1 : Nat)) : Int) ∧ (↑(i + (1 : Nat)) : Int) ≤ (1000000 : Int)) ∧ d = d ∧ c = c ∧ m = m ∧ dr = dr ∧ cr = cr ∧ sy = sy ∧ stM m i = stM m (i + (1 : Nat))))) ∧ (decide ((↑i : Int) < (↑(List.length m) : Int)) = false → Nat.beq (2 : Nat) (2 : Nat) = true ∧ true = true ∧ d = d ∧ c = c ∧ m = m ∧ dr = dr ∧ cr = cr ∧ sy = sy ∧ stM m i = stM m (List.length m))) := by kernel_rfl
set_option maxHeartbeats 4000000 in
theorem lssB (d c m : List Int) (dr cr : List Rel) (sy : List Sm) {W : World} {R own0 : Nat → Prop} {ρ0 : Nat → Option Value} (hown : HownOk (env (G7 ++ (G9 ++ rest)) [(41, kfirst10), (28, kLight), (42, kValid9), (43, kSites), (44, ksText), (39, kSeeSame), (45, kSites9), (46, kfT), (47, krLines), (13, kSameInstr), (49, kStarts), (48, kfIB)]) own0 ρ0) : LOk Tryd.prog (env (G7 ++ (G9 ++ rest)) [(41, kfirst10), (28, kLight), (42, kValid9), (43, kSites), (44, ksText), (39, kSeeSame), (45, kSites9), (46, kfT), (47, krLines), (13, kSameInstr), (49, kStarts), (48, kfIB)]) (ctx ea has) (G7 ++ (G9 ++ rest)) W R own0 ρ0 (loopN (bodyOf Tryd.f8) 1) (LssB d c m dr cr sy) := by
  refine loop1_ok (env_ok (con := [(41, kfirst10), (28, kLight), (42, kValid9), (43, kSites), (44, ksText), (39, kSeeSame), (45, kSites9), (46, kfT), (47, krLines), (13, kSameInstr), (49, kStarts), (48, kfIB)]) ⟨cfirst10, cLight, cValid9, cSites, csText, cSeeSame, cSites9, cfT, crLines, cSameInstr, cStarts, cfIB, trivial⟩) hown (ls := fun i => []) (fun i => noSums (by kernel_rfl)) (fun hm i hi hj => (bssB rest d c m dr cr sy i).mpr ?_) 0 (fun hm => by first | exact Nat.zero_le _ | omega) (fun hm => trivial)
  have hl := stM_len m i
  refine ⟨fun h => ?_, fun h => ?_⟩
  · have h := of_decide_eq_true h
    have hlt : i < m.length := by omega
    refine ⟨by omega, fun _ => ⟨fun h2 => ⟨by simp only [List.length_singleton]; omega, fun _ => ?_⟩, fun h2 => ?_⟩⟩
    · have e : m.getD i 0 = 1 := of_decide_eq_true h2
      refine ⟨hlt, trivial, rfl, by omega, by omega, rfl, rfl, rfl, rfl, rfl, rfl, ?_⟩
      rw [stM, if_pos e]
    · have e : ¬ m.getD i 0 = 1 := of_decide_eq_false h2
      refine ⟨hlt, trivial, rfl, by omega, by omega, rfl, rfl, rfl, rfl, rfl, rfl, ?_⟩
      rw [stM, if_neg e]
  · have h := of_decide_eq_false h
    exact ⟨rfl, rfl, rfl, rfl, rfl, rfl, rfl, rfl, by rw [show i = m.length by omega]⟩
def kSiteSays : List SVal → Nat → Acc ORes := fun a n => match a with | [.agg [.ro .u32 d, .ro .u32 c, .ro .u8 m, .ro .rel dr, .ro .rel cr, .ro .sym sy]] => .ret ({ v := .bool (.lit true) }) | _ => .fail "SiteSays"
theorem argSiteSays (d c m : List Int) (dr cr : List Rel) (sy : List Sm) : (all (subL tAtN none' [] deep [.agg [.ro .u32 d, .ro .u32 c, .ro .u8 m, .ro .rel dr, .ro .rel cr, .ro .sym sy]] [.agg [.ro .u32 d, .ro .u32 c, .ro .u8 m, .ro .rel dr, .ro .rel cr, .ro .sym sy]])) = (
  d = d ∧ c = c ∧ m = m ∧ dr = dr ∧ cr = cr ∧ sy = sy) := by kernel_rfl
theorem runSiteSays (rest : List (Nat × SVal)) (d : List Int) (c : List Int) (m : List Int) (dr : List Rel) (cr : List Rel) (sy : List Sm) : (Tr.sat (plainQ (.bool (.lit true))) (run (env (G7 ++ (G9 ++ rest)) [(41, kfirst10), (28, kLight), (42, kValid9), (43, kSites), (44, ksText), (39, kSeeSame), (45, kSites9), (46, kfT), (47, krLines), (13, kSameInstr), (49, kStarts), (48, kfIB)]) [(17, LssA d c m dr cr sy (s9 c m c.length)), (23, LssB d c m dr cr sy)] (bodyOf Tryd.f8) (start [.agg [.ro .u32 d, .ro .u32 c, .ro .u8 m, .ro .rel dr, .ro .rel cr, .ro .sym sy]] 138) (ends (env (G7 ++ (G9 ++ rest)) [(41, kfirst10), (28, kLight), (42, kValid9), (43, kSites), (44, ksText), (39, kSeeSame), (45, kSites9), (46, kfT), (47, krLines), (13, kSameInstr), (49, kStarts), (48, kfIB)]) Tryd.f8.results.toList))) = (
  ((0 : Int) ≤ (200 : Int) ∧ (200 : Int) ≤ (1000000 : Int)) ∧ ((0 : Int) ≤ (200 : Int) ∧ (200 : Int) ≤ (1000000 : Int) → ((!(!lightB d c m dr cr sy (200 : Int) && noneP (longP sy) (List.length sy))) = true → true = true) ∧ ((!(!lightB d c m dr cr sy (200 : Int) && noneP (longP sy) (List.length sy))) = false → ((!(decide (fcode (validE d c m dr cr sy) = codeN (full9 d c m dr cr sy)) && FErr.isPlaced (validE d c m dr cr sy) == FErr.isPlaced (full9 d c m dr cr sy) && decide (FErr.pos (validE d c m dr cr sy) = FErr.pos (full9 d c m dr cr sy))) || !(decide (fcode (validE d c m dr cr sy) = codeN (full9 d c m dr cr sy)) && FErr.isPlaced (validE d c m dr cr sy) == FErr.isPlaced (full9 d c m dr cr sy) && decide (FErr.pos (validE d c m dr cr sy) = FErr.pos (full9 d c m dr cr sy)))) = true → false = true) ∧ ((!(decide (fcode (validE d c m dr cr sy) = codeN (full9 d c m dr cr sy)) && FErr.isPlaced (validE d c m dr cr sy) == FErr.isPlaced (full9 d c m dr cr sy) && decide (FErr.pos (validE d c m dr cr sy) = FErr.pos (full9 d c m dr cr sy))) || !(decide (fcode (validE d c m dr cr sy) = codeN (full9 d c m dr cr sy)) && FErr.isPlaced (validE d c m dr cr sy) == FErr.isPlaced (full9 d c m dr cr sy) && decide (FErr.pos (validE d c m dr cr sy) = FErr.pos (full9 d c m dr cr sy)))) = false → ((!decide (codeN (full9 d c m dr cr sy) = (0 : Int))) = true → (decide ((↑(List.length (sitesM d c m dr cr sy)) : Int) = (0 : Int)) && decide ((↑(List.length (linesM d c m dr cr sy)) : Int) = (0 : Int))) = true) ∧ ((!decide (codeN (full9 d c m dr cr sy) = (0 : Int))) = false → (List.length c ≤ (1000000 : Nat) ∧ List.length m = List.length c) ∧ (List.length c ≤ (1000000 : Nat) ∧ List.length m = List.length c → ((!!decide ((↑(List.length (sitesM d c m dr cr sy)) : Int) = (↑(List.length (s9 c m (List.length c))) : Int))) = true → (List.length c ≤ (1000000 : Nat) ∧ List.length m = List.length c) ∧ ∀ (i : Nat), i < List.length c → List.getD m i (0 : RT.ty RT.u8) = (1 : RT.ty RT.u8) → isaClass (inS c i).op ≠ (0 : Int)) ∧ (((!!decide ((↑(List.length (sitesM d c m dr cr sy)) : Int) = (↑(List.length (s9 c m (List.length c))) : Int))) = true → (List.length c ≤ (1000000 : Nat) ∧ List.length m = List.length c) ∧ ∀ (i : Nat), i < List.length c → List.getD m i (0 : RT.ty RT.u8) = (1 : RT.ty RT.u8) → isaClass (inS c i).op ≠ (0 : Int)) → ((!!decide ((↑(List.length (sitesM d c m dr cr sy)) : Int) = (↑(List.length (s9 c m (List.length c))) : Int))) = true → List.length (linesM d c m dr cr sy) ≤ (1000000 : Nat)) ∧ (((!!decide ((↑(List.length (sitesM d c m dr cr sy)) : Int) = (↑(List.length (s9 c m (List.length c))) : Int))) = true → List.length (linesM d c m dr cr sy) ≤ (1000000 : Nat)) → ((!decide ((↑(List.length (sitesM d c m dr cr sy)) : Int) = (↑(List.length (s9 c m (List.length c))) : Int)) || !decide (linesM d c m dr cr sy = refLines c m (List.length c))) = true → false = true) ∧ ((!decide ((↑(List.length (sitesM d c m dr cr sy)) : Int) = (↑(List.length (s9 c m (List.length c))) : Int)) || !decide (linesM d c m dr cr sy = refLines c m (List.length c))) = false → (List.length (s9 c m (List.length c)) ≤ (1000000 : Nat) ∧ true = true ∧ sitesM d c m dr cr sy = s9 c m (List.length c) ∧ s9 c m (List.length c) = s9 c m (List.length c) ∧ (0 : Int) = (↑(0 : Nat) : Int) ∧ d = d ∧ c = c ∧ m = m ∧ dr = dr ∧ cr = cr ∧ sy = sy) ∧ (List.length (s9 c m (List.length c)) ≤ (1000000 : Nat) ∧ true = true ∧ sitesM d c m dr cr sy = s9 c m (List.length c) ∧ s9 c m (List.length c) = s9 c m (List.length c) ∧ (0 : Int) = (↑(0 : Nat) : Int) ∧ d = d ∧ c = c ∧ m = m ∧ dr = dr ∧ cr = cr ∧ sy = sy → (List.length m ≤ (1000000 : Nat) ∧ true = true ∧ (0 : Int) = (↑(0 : Nat) : Int) ∧ d = d ∧ c = c ∧ m = m ∧ dr = dr ∧ cr = cr ∧ sy = sy ∧ @List.nil (RT.ty RT.i64) = stM m (0 : Nat)) ∧ (List.length m ≤ (1000000 : Nat) ∧ true = true ∧ (0 : Int) = (↑(0 : Nat) : Int) ∧ d = d ∧ c = c ∧ m = m ∧ dr = dr ∧ cr = cr ∧ sy = sy ∧ @List.nil (RT.ty RT.i64) = stM m (0 : Nat) → List.length m ≤ (1000000 : Nat) ∧ (List.length m ≤ (1000000 : Nat) → List.length (startsF c m (List.length m)) ≤ (1000000 : Nat) ∧ (List.length (startsF c m (List.length m)) ≤ (1000000 : Nat) → decide (startsF c m (List.length m) = stM m (List.length m)) = true))))))))))))) := by kernel_rfl
set_option maxHeartbeats 4000000 in
theorem cSiteSays : Con ea has (G7 ++ (G9 ++ rest)) 8 kSiteSays := by
  refine plain_mkB Tryd.func8 138 (con := [(41, kfirst10), (28, kLight), (42, kValid9), (43, kSites), (44, ksText), (39, kSeeSame), (45, kSites9), (46, kfT), (47, krLines), (13, kSameInstr), (49, kStarts), (48, kfIB)]) ⟨cfirst10, cLight, cValid9, cSites, csText, cSeeSame, cSites9, cfT, crLines, cSameInstr, cStarts, cfIB, trivial⟩ (fun hA hr hv => ?_) (by kernel_rfl) (by kernel_rfl) Tryd.ntmps8
  unfold kSiteSays at hr; split at hr
  · rename_i d c m dr cr sy
    have := ret_ok hr; subst this
    refine ⟨_, [(17, LssA d c m dr cr sy (s9 c m c.length)), (23, LssB d c m dr cr sy)], rfl, rfl, .of (argSiteSays d c m dr cr sy) (by simp), rfl, (fun W R ρ0 own0 hown => hlN (bs := [loopN (bodyOf Tryd.f8) 0, loopN (bodyOf Tryd.f8) 1]) (by kernel_rfl) (fun b hb => by simp only [List.mem_cons, List.not_mem_nil, or_false] at hb; rcases hb with rfl | rfl; exact ⟨_, rfl, lssA d c m dr cr sy (s9 c m c.length) hown⟩; exact ⟨_, rfl, lssB d c m dr cr sy hown⟩)), .of (runSiteSays rest d c m dr cr sy) ?_⟩
    clear hr
    clear hA hv
    rw [full9_eq]
    have q1 : (decide (fcode (validE d c m dr cr sy) = codeN (validE d c m dr cr sy)) && (validE d c m dr cr sy).isPlaced == (validE d c m dr cr sy).isPlaced && decide ((validE d c m dr cr sy).pos = (validE d c m dr cr sy).pos)) = true := by rw [fc_full]; simp
    rw [q1]
    refine ⟨by decide, fun _ => ⟨fun _ => rfl, fun _ => ⟨fun g => by simp at g, fun _ => ⟨fun g => ?_, fun g => ?_⟩⟩⟩⟩
    · have hv : (validE d c m dr cr sy).isErr = true := by
        cases hv : (validE d c m dr cr sy).isErr with
        | true => rfl
        | false => rw [fine_of hv] at g; simp [codeN] at g
      rw [sitesM, linesM, if_pos hv, if_pos hv]; rfl
    · have hv : (validE d c m dr cr sy).isErr = false := err_code (by simpa using g)
      obtain ⟨v1, v2, _⟩ := valid_size hv
      have s1 : sitesM d c m dr cr sy = s9 c m c.length := by
        unfold sitesM; rw [if_neg (by rw [hv]; simp), v2]; exact sites_eq v2 _ (Nat.le_refl _)
      have s2 : linesM d c m dr cr sy = refLines c m c.length := by
        unfold linesM; rw [if_neg (by rw [hv]; simp), v2]; exact lines_eq v2 _ (Nat.le_refl _)
      have s3 : startsF c m m.length = stM m m.length := by rw [v2]; exact st_eq v2 _ (Nat.le_refl _)
      have l1 := s9_len c m c.length
      have l2 := refLines_len c m c.length
      have l3 := stM_len m m.length
      rw [s1, s2, s3]
      refine ⟨⟨by omega, v2⟩, fun _ => ⟨fun _ => ⟨⟨by omega, v2⟩, fun i hi hm => start_class hv hi hm⟩, fun _ => ⟨fun _ => by omega, fun _ => ⟨fun h => by simp at h, fun _ => ⟨⟨by omega, rfl, rfl, rfl, rfl, rfl, rfl, rfl, rfl, rfl, rfl⟩, fun _ => ⟨⟨by omega, rfl, rfl, rfl, rfl, rfl, rfl, rfl, rfl, rfl⟩, fun _ => ⟨by omega, fun _ => ⟨by omega, fun _ => by simp⟩⟩⟩⟩⟩⟩⟩⟩
  · cases hr
end
end Go.Proofs.YtceebkojjmmjmaaDoor

