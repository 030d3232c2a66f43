/- Contracts: the statements of chapter 10. -/
import Derived.Test.YtbdfibaljoedpaaDoorFnSite
import Derived.Test.YtbdfibaljoedpaaDoorFnMk2
set_option linter.unusedVariables false
set_option linter.unusedSimpArgs false
namespace Go.Proofs.YtbdfibaljoedpaaDoor
open Go.RowKit Go.Sy Go.Fac

section
variable {ea : Int → Addr} {has : Int → Prop} {rest : List (Nat × SVal)}

def kfirst10 : List SVal → Nat → Acc ORes := fun a n => match a with | [] => .ret ({ v := .bool (.lit true) }) | _ => .fail "first10"
theorem argfirst10  : (all (subL 134 none' [] deep [] [])) = (
  True) := by kernel_rfl
theorem runfirst10 (rest : List (Nat × SVal)) : (Tr.sat (plainQ (.bool (.lit true))) (run (env (G7 ++ rest) [(57, kSays), (18, kSites)]) [] (bodyOf Tryd.f16) (start [] 16) (ends (env (G7 ++ rest) [(57, kSays), (18, kSites)]) Tryd.f16.results.toList))) = (
  List.length [(1 : Int)] ≤ (10000 : Nat) ∧ (List.length [(1 : Int)] ≤ (10000 : Nat) → true = true)) := by kernel_rfl
set_option maxHeartbeats 4000000 in
theorem cfirst10 : Con ea has (G7 ++ rest) 16 kfirst10 := by
  refine plain_mk Tryd.func16 16 (con := [(57, kSays), (18, kSites)]) ⟨cSays, cSites, trivial⟩ (fun hA hr hv => ?_) (by kernel_rfl) (by kernel_rfl) Tryd.ntmps16
  unfold kfirst10 at hr; split at hr
  · skip
    have := ret_ok hr; subst this
    refine ⟨_, [], rfl, rfl, (argfirst10 ).mpr (by simp), rfl, (fun W R ρ0 own0 hown => noLoops (by kernel_rfl)), (runfirst10 rest ).mpr ?_⟩
    clear hr
    exact ⟨by decide, fun _ => rfl⟩
  · cases hr
/-- How many sites there are ahead of a word. -/
def ahead (c m : List Int) (i : Nat) : Nat := (sitesF c m (startsF c m i)).length
theorem firstE_all {f : Nat → FErr} (hp : ∀ i, (f i).isPlaced = false) {n : Nat} (h : (firstE f n).isErr = false) : ∀ i, i < n → (f i).isErr = false := by
  intro i hi
  cases hf : (f i).isErr with
  | false => rfl
  | true =>
    cases hi1 : (firstE f i).isErr with
    | true =>
      have := firstE_stay hi1 (Nat.le_of_lt hi)
      rw [this, hi1] at h; cases h
    | false =>
      have := (firstE_at (fine_of hi1) hf (hp i) hi).2
      rw [this] at h; cases h
theorem sitesF_app (c m l l' : List Int) : sitesF c m (l ++ l') = sitesF c m l ++ sitesF c m l' := by simp [sitesF]
theorem sitesF_one (c m : List Int) (a : Int) : sitesF c m [a] = siteOf c m a := by simp [sitesF]
theorem siteOf_at {c m : List Int} {a : Int} {s : St} (h : s ∈ siteOf c m a) : s.at_ = a := by
  unfold siteOf at h
  simp only at h
  split at h
  · simp only [List.mem_singleton] at h; rw [h]
  · cases h
/-- The sites at one word. -/
def sitesAt (c m : List Int) (i : Nat) : List St := if m.getD i 0 = 1 ∧ i < c.length then siteOf c m i else []
theorem sites_succ (c m : List Int) (i : Nat) : sitesF c m (startsF c m (i + 1)) = sitesF c m (startsF c m i) ++ sitesAt c m i := by
  have e : startsF c m (i + 1) = if m.getD i 0 = 1 ∧ i < c.length then startsF c m i ++ [(i : Int)] else startsF c m i := rfl
  rw [e]
  unfold sitesAt
  split
  · rw [sitesF_app, sitesF_one]
  · rw [List.append_nil]
theorem sites_tail (c m : List Int) (i : Nat) : ∀ k, ∃ X, sitesF c m (startsF c m (i + k)) = sitesF c m (startsF c m i) ++ X ∧ ∀ s ∈ X, (i : Int) ≤ s.at_
  | 0 => ⟨[], by simp, by simp⟩
  | k + 1 => by
    obtain ⟨X, h1, h2⟩ := sites_tail c m i k
    refine ⟨X ++ sitesAt c m (i + k), ?_, fun s hs => ?_⟩
    · rw [show i + (k + 1) = (i + k) + 1 by omega, sites_succ, h1, List.append_assoc]
    · rcases List.mem_append.1 hs with h | h
      · exact h2 s h
      · unfold sitesAt at h
        split at h
        · rw [siteOf_at h]; omega
        · cases h
/-- Is a word one that is found? -/
def isF (c m : List Int) (i : Nat) : Bool := decide (m.getD i 0 = 1) && (decide (isaClass (c.getD i 0 / 16777216) = 2) || decide (isaClass (c.getD i 0 / 16777216) = 3))
theorem ahead_le (c m : List Int) (i : Nat) : ahead c m i ≤ i := Nat.le_trans (sitesF_len c m _) (startsF_len c m i)
theorem finds {d c m : List Int} {dr cr : List Rel} {sy : List Sm} (hv : (validE d c m dr cr sy).isErr = false) {i : Nat} (hi : i < c.length) :
    (isF c m i = true → ahead c m i < (sitesM d c m dr cr sy).length ∧ ((sitesM d c m dr cr sy).getD (ahead c m i) RT.site.dflt).at_ = i ∧ ((sitesM d c m dr cr sy).getD (ahead c m i) RT.site.dflt).cls = isaClass (c.getD i 0 / 16777216) ∧
      ((sitesM d c m dr cr sy).getD (ahead c m i) RT.site.dflt).i.op = c.getD i 0 / 16777216 ∧ ahead c m (i + 1) = ahead c m i + 1) ∧
    (isF c m i = false → (ahead c m i < (sitesM d c m dr cr sy).length → ((sitesM d c m dr cr sy).getD (ahead c m i) RT.site.dflt).at_ ≠ i) ∧ ahead c m (i + 1) = ahead c m i) := by
  obtain ⟨v1, v2, _, _, _, _, v3, _⟩ := valid_size hv
  have hs : sitesM d c m dr cr sy = sitesF c m (startsF c m m.length) := by unfold sitesM; rw [if_neg (by rw [hv]; simp)]
  obtain ⟨X, h1, h2⟩ := sites_tail c m (i + 1) (m.length - (i + 1))
  rw [show i + 1 + (m.length - (i + 1)) = m.length by omega] at h1
  have hsucc := sites_succ c m i
  rw [hs, h1, hsucc]
  have hw := firstE_all (fun i => wordE_np c m i) v3 i hi
  have hah : ahead c m (i + 1) = ahead c m i + (sitesAt c m i).length := by unfold ahead; rw [hsucc, List.length_append]
  have hop : m.getD i 0 = 1 → insI c m i = ofF (c.getD i 0) (nextW c i) ∧ ofOk (c.getD i 0) = true := fun hm => by
    have hw' : (wordE c m i).isErr = false := hw
    unfold wordE at hw'
    rw [Int.toNat_natCast, if_pos hm] at hw'
    split at hw'
    · cases hw'
    · rename_i hb
      have hb : insB c m i = true := by
        cases hh : insB c m i with
        | true => rfl
        | false => rw [hh] at hb; simp at hb
      have hb' := hb
      unfold insB at hb
      rw [Bool.and_eq_true, Int.toNat_natCast] at hb
      refine ⟨?_, hb.2⟩
      unfold insI
      rw [if_pos hb.1, Int.toNat_natCast]
  have hop2 : m.getD i 0 = 1 → (insI c m i).op = c.getD i 0 / 16777216 := fun hm => by
    obtain ⟨e1, e2⟩ := hop hm
    rw [e1]; unfold ofF; rw [if_pos e2]
  refine ⟨fun h => ?_, fun h => ?_⟩
  · unfold isF at h
    rw [Bool.and_eq_true] at h
    have hm := of_decide_eq_true h.1
    have hS : sitesAt c m i = [⟨i, isaClass (insI c m i).op, insI c m i⟩] := by
      unfold sitesAt
      rw [if_pos ⟨hm, hi⟩]
      unfold siteOf
      simp only
      rw [hop2 hm, if_pos h.2]
    rw [hS] at hah ⊢
    have hg : (sitesF c m (startsF c m i) ++ [(⟨i, isaClass (insI c m i).op, insI c m i⟩ : St)] ++ X).getD (ahead c m i) RT.site.dflt = (⟨i, isaClass (insI c m i).op, insI c m i⟩ : St) := by
      unfold ahead
      rw [List.append_assoc, List.getD_eq_getElem?_getD, List.getElem?_append_right (Nat.le_refl _)]
      simp
    rw [hg]
    refine ⟨by unfold ahead; simp, rfl, by rw [hop2 hm], hop2 hm, hah⟩
  · have hS : sitesAt c m i = [] := by
      unfold sitesAt
      split
      · rename_i hm
        unfold siteOf
        simp only
        rw [hop2 hm.1, if_neg]
        intro hh
        unfold isF at h
        rw [hh, decide_eq_true hm.1] at h
        cases h
      · rfl
    rw [hS] at hah ⊢
    refine ⟨fun hlt => ?_, hah⟩
    rw [List.append_nil] at hlt ⊢
    rw [List.length_append] at hlt
    unfold ahead at hlt ⊢
    rw [List.getD_eq_getElem?_getD, List.getElem?_append_right (Nat.le_refl _), Nat.sub_self]
    cases X with
    | nil => simp at hlt
    | cons x X =>
      have := h2 x (List.mem_cons_self ..)
      simp only [List.getElem?_cons_zero, Option.getD_some]
      omega

def HFinds (d c m : List Int) (dr cr : List Rel) (sy : List Sm) (i : Nat) : SState := { fr := [(1, .ptr 0 0), (3, .bool (.lit true)), (4, .ro .site (sitesM d c m dr cr sy)), (6, .int .i64 (.sym (ahead c m i) 0 1000000)), (7, .int .i64 (.sym i 0 1000000))], hp := [(0, some (.cells [.ro .u32 d, .ro .u32 c, .ro .u8 m, .ro .rel dr, .ro .rel cr, .ro .sym sy]))], next := 1, sz := 102 }
def XFinds (d c m : List Int) (dr cr : List Rel) (sy : List Sm) : SState := { fr := [(3, .bool (.lit true)), (4, .ro .site (sitesM d c m dr cr sy)), (6, .int .i64 (.sym (ahead c m c.length) 0 1000000))], hp := [], next := 0, sz := 102 }
def LFinds (d c m : List Int) (dr cr : List Rel) (sy : List Sm) : LSum := ⟨HFinds d c m dr cr sy 0, fun k => k (.exit 0) (XFinds d c m dr cr sy), (validE d c m dr cr sy).isErr = false⟩
theorem bFinds (rest : List (Nat × SVal)) (d c m : List Int) (dr cr : List Rel) (sy : List Sm) (i : Nat) : (Tr.sat (rnd1 (env (G7 ++ rest) [(16, kfirst10), (17, kLight), (18, kSites), (19, krClass)]) (fun _ => True) (c.length) (HFinds d c m dr cr sy) 0 (XFinds d c m dr cr sy) i) (run (env (G7 ++ rest) [(16, kfirst10), (17, kLight), (18, kSites), (19, krClass)]) [] (loopN (bodyOf Tryd.f3) 0) (HFinds d c m dr cr sy i) .leaf)) = (
  (decide ((↑i : Int) < (↑(List.length c) : Int)) = true →
    ((0 : Int) ≤ (↑i : Int) ∧ (↑i : Int) < (↑(List.length c) : Int)) ∧
      ((0 : Int) ≤ (↑i : Int) ∧ (↑i : Int) < (↑(List.length c) : Int) →
        ((0 : Int) ≤ (↑i : Int) ∧ (↑i : Int) < (↑(List.length m) : Int)) ∧
          ((0 : Int) ≤ (↑i : Int) ∧ (↑i : Int) < (↑(List.length m) : Int) →
            (decide ((↑(ahead c m i) : Int) < (↑(List.length (sitesM d c m dr cr sy)) : Int)) = true →
                (0 : Int) ≤ (↑(ahead c m i) : Int) ∧ (↑(ahead c m i) : Int) < (↑(List.length (sitesM d c m dr cr sy)) : Int)) ∧
              ((decide ((↑(ahead c m i) : Int) < (↑(List.length (sitesM d c m dr cr sy)) : Int)) = true →
                  (0 : Int) ≤ (↑(ahead c m i) : Int) ∧ (↑(ahead c m i) : Int) < (↑(List.length (sitesM d c m dr cr sy)) : Int)) →
                ((!(decide (List.getD m (Int.toNat (↑i : Int)) (RT.dflt RT.u8) = (1 : Int)) &&
                            (decide (isaClass (List.getD c (Int.toNat (↑i : Int)) (RT.dflt RT.u32) / (16777216 : Int)) = (2 : Int)) ||
                              decide (isaClass (List.getD c (Int.toNat (↑i : Int)) (RT.dflt RT.u32) / (16777216 : Int)) = (3 : Int)))) ==
                          (decide ((↑(ahead c m i) : Int) < (↑(List.length (sitesM d c m dr cr sy)) : Int)) &&
                            decide ((List.getD (sitesM d c m dr cr sy) (Int.toNat (↑(ahead c m i) : Int)) (RT.dflt RT.site)).at_ = (↑i : Int)))) =
                      true →
                    False) ∧
                  ((!(decide (List.getD m (Int.toNat (↑i : Int)) (RT.dflt RT.u8) = (1 : Int)) &&
                            (decide (isaClass (List.getD c (Int.toNat (↑i : Int)) (RT.dflt RT.u32) / (16777216 : Int)) = (2 : Int)) ||
                              decide (isaClass (List.getD c (Int.toNat (↑i : Int)) (RT.dflt RT.u32) / (16777216 : Int)) = (3 : Int)))) ==
                          (decide ((↑(ahead c m i) : Int) < (↑(List.length (sitesM d c m dr cr sy)) : Int)) &&
                            decide ((List.getD (sitesM d c m dr cr sy) (Int.toNat (↑(ahead c m i) : Int)) (RT.dflt RT.site)).at_ = (↑i : Int)))) =
                      false →
                    ((decide (List.getD m (Int.toNat (↑i : Int)) (RT.dflt RT.u8) = (1 : Int)) &&
                            (decide (isaClass (List.getD c (Int.toNat (↑i : Int)) (RT.dflt RT.u32) / (16777216 : Int)) = (2 : Int)) ||
                              decide (isaClass (List.getD c (Int.toNat (↑i : Int)) (RT.dflt RT.u32) / (16777216 : Int)) = (3 : Int)))) =
                          true →
                        ((0 : Int) ≤ (↑(ahead c m i) : Int) ∧ (↑(ahead c m i) : Int) < (↑(List.length (sitesM d c m dr cr sy)) : Int)) ∧
                          ((0 : Int) ≤ (↑(ahead c m i) : Int) ∧ (↑(ahead c m i) : Int) < (↑(List.length (sitesM d c m dr cr sy)) : Int) →
                            ((!!decide
                                        ((List.getD (sitesM d c m dr cr sy) (Int.toNat (↑(ahead c m i) : Int)) (RT.dflt RT.site)).cls =
                                          isaClass (List.getD c (Int.toNat (↑i : Int)) (RT.dflt RT.u32) / (16777216 : Int)))) =
                                  true →
                                (0 : Int) ≤ (↑(ahead c m i) : Int) ∧ (↑(ahead c m i) : Int) < (↑(List.length (sitesM d c m dr cr sy)) : Int)) ∧
                              (((!!decide
                                          ((List.getD (sitesM d c m dr cr sy) (Int.toNat (↑(ahead c m i) : Int)) (RT.dflt RT.site)).cls =
                                            isaClass (List.getD c (Int.toNat (↑i : Int)) (RT.dflt RT.u32) / (16777216 : Int)))) =
                                    true →
                                  (0 : Int) ≤ (↑(ahead c m i) : Int) ∧ (↑(ahead c m i) : Int) < (↑(List.length (sitesM d c m dr cr sy)) : Int)) →
                                ((!!decide
                                            ((List.getD (sitesM d c m dr cr sy) (Int.toNat (↑(ahead c m i) : Int)) (RT.dflt RT.site)).cls =
                                              isaClass (List.getD c (Int.toNat (↑i : Int)) (RT.dflt RT.u32) / (16777216 : Int)))) =
                                      true →
                                    (0 : Int) ≤ (↑i : Int) ∧ (↑i : Int) < (↑(List.length c) : Int)) ∧
                                  (((!!decide
                                              ((List.getD (sitesM d c m dr cr sy) (Int.toNat (↑(ahead c m i) : Int)) (RT.dflt RT.site)).cls =
                                                isaClass (List.getD c (Int.toNat (↑i : Int)) (RT.dflt RT.u32) / (16777216 : Int)))) =
                                        true →
                                      (0 : Int) ≤ (↑i : Int) ∧ (↑i : Int) < (↑(List.length c) : Int)) →
                                    ((!decide
                                                ((List.getD (sitesM d c m dr cr sy) (Int.toNat (↑(ahead c m i) : Int)) (RT.dflt RT.site)).cls =
                                                  isaClass (List.getD c (Int.toNat (↑i : Int)) (RT.dflt RT.u32) / (16777216 : Int))) ||
                                            !decide
                                                ((List.getD (sitesM d c m dr cr sy) (Int.toNat (↑(ahead c m i) : Int)) (RT.dflt RT.site)).i.op =
                                                  List.getD c (Int.toNat (↑i : Int)) (RT.dflt RT.u32) / (16777216 : Int))) =
                                          true →
                                        False) ∧
                                      ((!decide
                                                ((List.getD (sitesM d c m dr cr sy) (Int.toNat (↑(ahead c m i) : Int)) (RT.dflt RT.site)).cls =
                                                  isaClass (List.getD c (Int.toNat (↑i : Int)) (RT.dflt RT.u32) / (16777216 : Int))) ||
                                            !decide
                                                ((List.getD (sitesM d c m dr cr sy) (Int.toNat (↑(ahead c m i) : Int)) (RT.dflt RT.site)).i.op =
                                                  List.getD c (Int.toNat (↑i : Int)) (RT.dflt RT.u32) / (16777216 : Int))) =
                                          false →
                                        i < List.length c ∧
                                          True ∧
                                            true = true ∧
                                              sitesM d c m dr cr sy = sitesM d c m dr cr sy ∧
                                                (↑(ahead c m i) : Int) + (1 : Int) = (↑(ahead c m (i + (1 : Nat))) : Int) ∧
                                                  ((0 : Int) ≤ (↑(ahead c m (i + (1 : Nat))) : Int) ∧ (↑(ahead c m (i + (1 : Nat))) : Int) ≤ (1000000 : Int)) ∧
                                                    (↑i : Int) + (1 : Int) = (↑(i + (1 : Nat)) : Int) ∧
                                                      ((0 : Int) ≤ (↑(i + (1 : Nat)) : Int) ∧ (↑(i + (1 : Nat)) : Int) ≤ (1000000 : Int)) ∧
                                                        d = d ∧ c = c ∧ m = m ∧ dr = dr ∧ cr = cr ∧ sy = sy))))) ∧
                      ((decide (List.getD m (Int.toNat (↑i : Int)) (RT.dflt RT.u8) = (1 : Int)) &&
                            (decide (isaClass (List.getD c (Int.toNat (↑i : Int)) (RT.dflt RT.u32) / (16777216 : Int)) = (2 : Int)) ||
                              decide (isaClass (List.getD c (Int.toNat (↑i : Int)) (RT.dflt RT.u32) / (16777216 : Int)) = (3 : Int)))) =
                          false →
                        i < List.length c ∧
                          True ∧
                            true = true ∧
                              sitesM d c m dr cr sy = sitesM d c m dr cr sy ∧
                                (↑(ahead c m i) : Int) = (↑(ahead c m (i + (1 : Nat))) : Int) ∧
                                  (↑i : Int) + (1 : Int) = (↑(i + (1 : Nat)) : Int) ∧
                                    ((0 : Int) ≤ (↑(i + (1 : Nat)) : Int) ∧ (↑(i + (1 : Nat)) : Int) ≤ (1000000 : Int)) ∧
                                      d = d ∧ c = c ∧ m = m ∧ dr = dr ∧ cr = cr ∧ sy = sy)))))) ∧
  (decide ((↑i : Int) < (↑(List.length c) : Int)) = false →
    Nat.beq (0 : Nat) (0 : Nat) = true ∧ true = true ∧ sitesM d c m dr cr sy = sitesM d c m dr cr sy ∧ (↑(ahead c m i) : Int) = (↑(ahead c m (List.length c)) : Int))) := by kernel_rfl
set_option maxHeartbeats 4000000 in
theorem lFinds (d c m : List Int) (dr cr : List Rel) (sy : List Sm) {W : World} {R own0 : Nat → Prop} {ρ0 : Nat → Option Value} (hown : HownOk (env (G7 ++ rest) [(16, kfirst10), (17, kLight), (18, kSites), (19, krClass)]) own0 ρ0) : LOk Tryd.prog (env (G7 ++ rest) [(16, kfirst10), (17, kLight), (18, kSites), (19, krClass)]) (ctx ea has) (G7 ++ rest) W R own0 ρ0 (loopN (bodyOf Tryd.f3) 0) (LFinds d c m dr cr sy) := by
  refine loop1_ok (env_ok (con := [(16, kfirst10), (17, kLight), (18, kSites), (19, krClass)]) ⟨cfirst10, cLight, cSites, crClass, trivial⟩) hown (ls := fun i => []) (fun i => noLoops (by kernel_rfl)) (fun hm i hi hj => (bFinds rest d c m dr cr sy i).mpr ?_) 0 (fun hm => by first | exact Nat.zero_le _ | omega) (fun hm => trivial)
  obtain ⟨v1, v2, _⟩ := valid_size hm
  have d1 : RT.u8.dflt = (0 : Int) := rfl
  have d2 : RT.u32.dflt = (0 : Int) := rfl
  have hF : (decide (m.getD i 0 = 1) && (decide (isaClass (c.getD i 0 / 16777216) = 2) || decide (isaClass (c.getD i 0 / 16777216) = 3))) = isF c m i := rfl
  have a1 := ahead_le c m i
  have a2 := ahead_le c m (i + 1)
  simp only [d1, d2, Int.toNat_natCast, hF]
  refine ⟨fun h => ?_, fun h => ?_⟩
  · have h := of_decide_eq_true h
    have hlt : i < c.length := by omega
    obtain ⟨f1, f2⟩ := finds hm hlt
    refine ⟨by omega, fun _ => ⟨by omega, fun _ => ⟨fun h => by have := of_decide_eq_true h; omega, fun _ => ⟨fun h2 => ?_, fun h2 => ⟨fun h3 => ?_, fun h3 => ?_⟩⟩⟩⟩⟩
    · cases hi2 : isF c m i with
      | true =>
        obtain ⟨g1, g2, _⟩ := f1 hi2
        rw [hi2, decide_eq_true (by omega), decide_eq_true g2] at h2
        cases h2
      | false =>
        obtain ⟨g1, _⟩ := f2 hi2
        rw [hi2] at h2
        have h2 : (decide ((ahead c m i : Int) < (sitesM d c m dr cr sy).length) && decide (((sitesM d c m dr cr sy).getD (ahead c m i) RT.site.dflt).at_ = i)) = true := by simpa using h2
        rw [Bool.and_eq_true] at h2
        have q1 := of_decide_eq_true h2.1
        exact g1 (by omega) (of_decide_eq_true h2.2)
    · obtain ⟨g1, g2, g3, g4, g5⟩ := f1 h3
      refine ⟨by omega, fun _ => ⟨fun _ => by omega, fun _ => ⟨fun _ => by omega, fun _ => ⟨fun h4 => ?_, fun h4 => ⟨hlt, trivial, ?_⟩⟩⟩⟩⟩
      · rw [decide_eq_true g3, decide_eq_true g4] at h4; cases h4
      · rw [g5]; simp; omega
    · obtain ⟨_, g5⟩ := f2 h3
      refine ⟨hlt, trivial, ?_⟩
      rw [g5]; simp; omega
  · have h := of_decide_eq_false h
    have e : i = c.length := by omega
    subst e
    simp
def kSiteFinds : List SVal → Nat → Acc ORes := fun a n => match a with | [.agg [.ro .u32 d, .ro .u32 c, .ro .u8 m, .ro .rel dr, .ro .rel cr, .ro .sym sy]] => .ret ({ v := .bool (.lit true) }) | _ => .fail "SiteFinds"
theorem argSiteFinds (d c m : List Int) (dr cr : List Rel) (sy : List Sm) : (all (subL 134 none' [] deep [.agg [.ro .u32 d, .ro .u32 c, .ro .u8 m, .ro .rel dr, .ro .rel cr, .ro .sym sy]] [.agg [.ro .u32 d, .ro .u32 c, .ro .u8 m, .ro .rel dr, .ro .rel cr, .ro .sym sy]])) = (
  d = d ∧ c = c ∧ m = m ∧ dr = dr ∧ cr = cr ∧ sy = sy) := by kernel_rfl
theorem runSiteFinds (rest : List (Nat × SVal)) (d c m : List Int) (dr cr : List Rel) (sy : List Sm) : (Tr.sat (plainQ (.bool (.lit true))) (run (env (G7 ++ rest) [(16, kfirst10), (17, kLight), (18, kSites), (19, krClass)]) [(11, LFinds d c m dr cr sy)] (bodyOf Tryd.f3) (start [.agg [.ro .u32 d, .ro .u32 c, .ro .u8 m, .ro .rel dr, .ro .rel cr, .ro .sym sy]] 102) (ends (env (G7 ++ rest) [(16, kfirst10), (17, kLight), (18, kSites), (19, krClass)]) Tryd.f3.results.toList))) = (
  ((0 : Int) ≤ (200 : Int) ∧ (200 : Int) ≤ (1000000 : Int)) ∧
  ((0 : Int) ≤ (200 : Int) ∧ (200 : Int) ≤ (1000000 : Int) →
    ((!(!lightB d c m dr cr sy (200 : Int) && noneP (longP sy) (List.length sy))) = true → true = true) ∧
      ((!(!lightB d c m dr cr sy (200 : Int) && noneP (longP sy) (List.length sy))) = false →
        ((!!FErr.isErr (validE d c m dr cr sy)) = true → true = true) ∧
          ((!!FErr.isErr (validE d c m dr cr sy)) = false →
            (FErr.isErr (validE d c m dr cr sy) = false ∧
                true = true ∧
                  sitesM d c m dr cr sy = sitesM d c m dr cr sy ∧
                    (0 : Int) = (↑(ahead c m (0 : Nat)) : Int) ∧ (0 : Int) = (↑(0 : Nat) : Int) ∧ d = d ∧ c = c ∧ m = m ∧ dr = dr ∧ cr = cr ∧ sy = sy) ∧
              (FErr.isErr (validE d c m dr cr sy) = false ∧
                  true = true ∧
                    sitesM d c m dr cr sy = sitesM d c m dr cr sy ∧
                      (0 : Int) = (↑(ahead c m (0 : Nat)) : Int) ∧ (0 : Int) = (↑(0 : Nat) : Int) ∧ d = d ∧ c = c ∧ m = m ∧ dr = dr ∧ cr = cr ∧ sy = sy →
                decide ((↑(ahead c m (List.length c)) : Int) = (↑(List.length (sitesM d c m dr cr sy)) : Int)) = true))))) := by kernel_rfl
set_option maxHeartbeats 4000000 in
theorem cSiteFinds : Con ea has (G7 ++ rest) 3 kSiteFinds := by
  refine plain_mk Tryd.func3 102 (con := [(16, kfirst10), (17, kLight), (18, kSites), (19, krClass)]) ⟨cfirst10, cLight, cSites, crClass, trivial⟩ (fun hA hr hv => ?_) (by kernel_rfl) (by kernel_rfl) Tryd.ntmps3
  unfold kSiteFinds at hr; split at hr
  · rename_i d c m dr cr sy
    have := ret_ok hr; subst this
    refine ⟨_, [(11, LFinds d c m dr cr sy)], rfl, rfl, (argSiteFinds d c m dr cr sy).mpr (by simp), rfl, (fun W R ρ0 own0 hown => hl1 (by kernel_rfl) (by kernel_rfl) (lFinds d c m dr cr sy hown)), (runSiteFinds rest d c m dr cr sy).mpr ?_⟩
    clear hr
    refine ⟨by decide, fun _ => ⟨fun _ => rfl, fun _ => ⟨fun _ => rfl, fun h => ?_⟩⟩⟩
    have h : (validE d c m dr cr sy).isErr = false := by simpa using h
    obtain ⟨v1, v2, _⟩ := valid_size h
    refine ⟨⟨h, rfl, rfl, rfl, rfl, rfl, rfl, rfl, rfl, rfl, rfl⟩, fun _ => ?_⟩
    unfold sitesM
    rw [if_neg (by rw [h]; simp), v2]
    exact decide_eq_true rfl
  · cases hr
end
end Go.Proofs.YtbdfibaljoedpaaDoor
