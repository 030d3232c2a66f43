/- Contracts that the proofs use. -/
import Derived.Test.YtbdfibaljoedpaaDoorQFnRef9f
set_option linter.unusedVariables false
set_option linter.unusedSimpArgs false
set_option linter.unusedSectionVars false
namespace Go.Proofs.YtbdfibaljoedpaaDoor
open Go.RowKit Go.Sy Go.Fac
section
variable {ea : Int → Addr} {has : Int → Prop} {rest : List (Nat × SVal)}
def HRelsC (l : List Rel) (i : Nat) : SState := { fr := [(0, .ro .rel l), (3, .own 0), (4, .int .i64 (.sym i 0 1000000))], hp := [(0, some (.recs .rel (l.take i)))], next := 1, sz := 22 }
def XRelsC (l : List Rel) : SState := { fr := [(3, .own 0)], hp := [(0, some (.recs .rel l))], next := 1, sz := 22 }
def LRelsC (l : List Rel) : LSum := ⟨HRelsC l 0, fun k => k (.exit 0) (XRelsC l), l.length ≤ 1000000⟩
theorem bRelsC (rest : List (Nat × SVal)) (l : List Rel) (i : Nat) : (Tr.sat (rnd1 (env (G7 ++ (G9 ++ rest)) []) (fun _ => True) (l.length) (HRelsC l) 0 (XRelsC l) i) (run (env (G7 ++ (G9 ++ rest)) []) [] (loopN (bodyOf Tryd.f82) 0) (HRelsC l i) .leaf)) = (
  (decide ((↑i : Int) < (↑(List.length l) : Int)) = true → ((0 : Int) ≤ (↑i : Int) ∧ (↑i : Int) < (↑(List.length l) : Int)) ∧ ((0 : Int) ≤ (↑i : Int) ∧ (↑i : Int) < (↑(List.length l) : Int) → List.length (List.take i l) + List.length [Rel.mk (List.getD l (Int.toNat (↑i : Int)) (RT.dflt RT.rel)).at_ (List.getD l (Int.toNat (↑i : Int)) (RT.dflt RT.rel)).kind (List.getD l (Int.toNat (↑i : Int)) (RT.dflt RT.rel)).sym (List.getD l (Int.toNat (↑i : Int)) (RT.dflt RT.rel)).add] ≤ (137438953472 : Nat) ∧ (List.length (List.take i l) + List.length [Rel.mk (List.getD l (Int.toNat (↑i : Int)) (RT.dflt RT.rel)).at_ (List.getD l (Int.toNat (↑i : Int)) (RT.dflt RT.rel)).kind (List.getD l (Int.toNat (↑i : Int)) (RT.dflt RT.rel)).sym (List.getD l (Int.toNat (↑i : Int)) (RT.dflt RT.rel)).add] ≤ (137438953472 : Nat) → i < List.length l ∧ True ∧ l = l ∧ (↑i : Int) + (1 : Int) = (↑(i + (1 : Nat)) : Int) ∧ ((0 : Int) ≤ (↑(i + (1 : Nat)) : Int) ∧ (↑(i + (1 : Nat)) : Int) ≤ (1000000 : Int)) ∧ List.take i l ++ [Rel.mk (List.getD l (Int.toNat (↑i : Int)) (RT.dflt RT.rel)).at_ (List.getD l (Int.toNat (↑i : Int)) (RT.dflt RT.rel)).kind (List.getD l (Int.toNat (↑i : Int)) (RT.dflt RT.rel)).sym (List.getD l (Int.toNat (↑i : Int)) (RT.dflt RT.rel)).add] = List.take (i + (1 : Nat)) l))) ∧ (decide ((↑i : Int) < (↑(List.length l) : Int)) = false → Nat.beq (0 : Nat) (0 : Nat) = true ∧ List.take i l = l)) := by kernel_rfl
set_option maxHeartbeats 4000000 in
theorem lRelsC (l : List Rel) {W : World} {R own0 : Nat → Prop} {ρ0 : Nat → Option Value} (hown : HownOk (env (G7 ++ (G9 ++ rest)) []) own0 ρ0) : LOk Tryd.prog (env (G7 ++ (G9 ++ rest)) []) (ctx ea has) (G7 ++ (G9 ++ rest)) W R own0 ρ0 (loopN (bodyOf Tryd.f82) 0) (LRelsC l) := by
  refine loop1_ok (env_ok (con := []) trivial) hown (ls := fun i => []) (fun i => noLoops (by kernel_rfl)) (fun hm i hi hj => (bRelsC rest l i).mpr ?_) 0 (fun hm => by first | exact Nat.zero_le _ | omega) (fun hm => trivial)
  simp only [Int.toNat_natCast, List.length_singleton, List.length_take]
  refine ⟨fun h => ?_, fun h => ?_⟩
  · have h := of_decide_eq_true h
    have hlt : i < l.length := by omega
    have : l.take i ++ [l.getD i RT.rel.dflt] = l.take (i + 1) := by rw [List.take_add_one, List.getElem?_eq_getElem hlt]; simp [hlt]
    refine ⟨by omega, fun _ => ⟨by omega, fun _ => ⟨hlt, trivial, trivial, by omega, by omega, this⟩⟩⟩
  · have h := of_decide_eq_false h
    exact ⟨rfl, List.take_of_length_le (by omega)⟩
def kRelsC : List SVal → Nat → Acc ORes := fun a n => match a with | [.ro .rel l] => .ret ({ v := .ro .rel l, vc := some (l.length ≤ 1000000) }) | _ => .fail "RelsC"
theorem argRelsC (l : List Rel) : (all (subL 134 none' [] deep [.ro .rel l] [.ro .rel l])) = (
  l = l) := by kernel_rfl
theorem runRelsC (rest : List (Nat × SVal)) (l : List Rel) : (Tr.sat (plainQ (.ro .rel l)) (run (env (G7 ++ (G9 ++ rest)) []) [(3, LRelsC l)] (bodyOf Tryd.f82) (start [.ro .rel l] 22) (ends (env (G7 ++ (G9 ++ rest)) []) Tryd.f82.results.toList))) = (
  ((0 : Int) ≤ (0 : Int) ∧ (0 : Int) ≤ (↑(List.length l) : Int) ∧ (↑(List.length l) : Int) ≤ (137438953472 : Int)) ∧ ((0 : Int) ≤ (0 : Int) ∧ (0 : Int) ≤ (↑(List.length l) : Int) ∧ (↑(List.length l) : Int) ≤ (137438953472 : Int) → (List.length l ≤ (1000000 : Nat) ∧ l = l ∧ (0 : Int) = (↑(0 : Nat) : Int) ∧ List.replicate (Int.toNat (0 : Int)) (RT.dflt RT.rel) = List.take (0 : Nat) l) ∧ (List.length l ≤ (1000000 : Nat) ∧ l = l ∧ (0 : Int) = (↑(0 : Nat) : Int) ∧ List.replicate (Int.toNat (0 : Int)) (RT.dflt RT.rel) = List.take (0 : Nat) l → l = l))) := by kernel_rfl
set_option maxHeartbeats 4000000 in
theorem cRelsC : Con ea has (G7 ++ (G9 ++ rest)) 82 kRelsC := by
  refine plain_mk Tryd.func82 22 (con := []) trivial (fun hA hr hv => ?_) (by kernel_rfl) (by kernel_rfl) Tryd.ntmps82
  unfold kRelsC at hr; split at hr
  · rename_i l
    have := ret_ok hr; subst this
    replace hv := hv _ rfl
    refine ⟨_, [(3, LRelsC l)], rfl, rfl, (argRelsC l).mpr (by simp), rfl, (fun W R ρ0 own0 hown => hl1 (by kernel_rfl) (by kernel_rfl) (lRelsC l hown)), (runRelsC rest l).mpr ?_⟩
    clear hr
    refine ⟨by omega, fun _ => ⟨⟨hv, rfl, rfl, rfl⟩, fun _ => rfl⟩⟩
  · cases hr
abbrev rwHp (d c m : List Int) (dr cr : List Rel) (sy : List Sm) (C M T : List Int) (x4 x5 : SVal) : List (Nat × Option Cont) := [(0, obBox d c m dr cr sy), (1, some (.cells [.nilslice, .nilslice, .nilslice, .nilslice, .nilslice, .nilslice])), (2, cell0), (3, cellF (full9 d c m dr cr sy)), (4, some (.cells [.ro .u32 d, .own 5, .own 6, .ro .rel dr, x4, x5])), (5, some (.recs .u32 C)), (6, some (.recs .u8 M)), (7, some (.recs .i64 T))]
abbrev rwFr (n : Nat) (i : SI) : List (Nat × SVal) := [(1, .ptr 0 0), (2, .ptr 1 0), (4, .ptr 2 0), (5, .ptr 3 0), (6, .ptr 4 0), (7, .own 7), (n, .int .i64 i)]
abbrev rwEx : List (Nat × SVal) := [(1, .ptr 0 0), (2, .ptr 1 0), (4, .ptr 2 0), (5, .ptr 3 0), (6, .ptr 4 0), (7, .own 7)]
abbrev atT (c m : List Int) : List Int := rwTo c m ++ [((rwC c m c.length).length : Int)]
theorem atT_get (c m : List Int) {x : Int} (h0 : 0 ≤ x) (h1 : x < c.length) : (atT c m).getD x.toNat 0 = placeI (rwTo c m) x := by
  have hT := rwTo_len c m
  unfold placeI atT
  rw [List.getD_eq_getElem?_getD, List.getD_eq_getElem?_getD, List.getElem?_append_left (by omega)]
theorem atT_len (c m : List Int) : (atT c m).length = c.length + 1 := by unfold atT; rw [List.length_append, rwTo_len]; rfl
def HRw9A (d c m : List Int) (dr cr : List Rel) (sy : List Sm) (i : Nat) : SState := { fr := rwFr 8 (.sym i 0 1000000), hp := rwHp d c m dr cr sy (rwC c m i) (rwM c m i) (rwT c m i) .nilslice .nilslice, next := 8, sz := 174 }
def XRw9A (d c m : List Int) (dr cr : List Rel) (sy : List Sm) : SState := { fr := rwEx, hp := rwHp d c m dr cr sy (rwC c m c.length) (rwM c m c.length) (rwT c m c.length) .nilslice .nilslice, next := 8, sz := 174 }
def LRw9A (d c m : List Int) (dr cr : List Rel) (sy : List Sm) : LSum := ⟨HRw9A d c m dr cr sy 0, fun k => k (.exit 0) (XRw9A d c m dr cr sy), (validE d c m dr cr sy).isErr = false⟩
theorem bRw9A (rest : List (Nat × SVal)) (d c m : List Int) (dr cr : List Rel) (sy : List Sm) (i : Nat) : (Tr.sat (rnd1 (env (G7 ++ (G9 ++ rest)) [(50, kValid9), (61, kWords), (82, kRelsC), (81, kSecond), (80, krOf), (19, krClass), (26, kBare)]) (fun _ => True) (c.length) (HRw9A d c m dr cr sy) 0 (XRw9A d c m dr cr sy) i) (run (env (G7 ++ (G9 ++ rest)) [(50, kValid9), (61, kWords), (82, kRelsC), (81, kSecond), (80, krOf), (19, krClass), (26, kBare)]) [] (loopN (bodyOf Tryd.f42) 0) (HRw9A d c m dr cr sy i) .leaf)) = (
  (decide ((↑i : Int) < (↑(List.length c) : Int)) = true → List.length (rwT c m i) + List.length [(↑(List.length (rwC c m i)) : Int)] ≤ (137438953472 : Nat) ∧ (List.length (rwT c m i) + List.length [(↑(List.length (rwC c m i)) : Int)] ≤ (137438953472 : Nat) → ((0 : Int) ≤ (↑i : Int) ∧ (↑i : Int) < (↑(List.length c) : Int)) ∧ ((0 : Int) ≤ (↑i : Int) ∧ (↑i : Int) < (↑(List.length c) : Int) → ((0 : Int) ≤ (↑i : Int) ∧ (↑i : Int) < (↑(List.length c) : Int) ∧ List.length c ≤ (1000000 : Nat)) ∧ ((0 : Int) ≤ (↑i : Int) ∧ (↑i : Int) < (↑(List.length c) : Int) ∧ List.length c ≤ (1000000 : Nat) → ((0 : Int) ≤ (↑i : Int) ∧ (↑i : Int) < (↑(List.length m) : Int)) ∧ ((0 : Int) ≤ (↑i : Int) ∧ (↑i : Int) < (↑(List.length m) : Int) → ((decide (List.getD m (Int.toNat (↑i : Int)) (RT.dflt RT.u8) = (1 : Int)) && (decide (isaClass (ofF (List.getD c (Int.toNat (↑i : Int)) (RT.dflt RT.u32)) (nextW c (↑i : Int))).op = (2 : Int)) || decide (isaClass (ofF (List.getD c (Int.toNat (↑i : Int)) (RT.dflt RT.u32)) (nextW c (↑i : Int))).op = (3 : Int)))) = true → ((0 : Int) ≤ (↑i : Int) ∧ (↑i : Int) < (↑(List.length c) : Int)) ∧ ((0 : Int) ≤ (↑i : Int) ∧ (↑i : Int) < (↑(List.length c) : Int) → List.length (rwC c m i) + List.length [(1610612736 : Int), IntKind.wrap IntKind.u32 ((2147483648 : Int) + List.getD c (Int.toNat (↑i : Int)) (RT.dflt RT.u32))] ≤ (137438953472 : Nat) ∧ (List.length (rwC c m i) + List.length [(1610612736 : Int), IntKind.wrap IntKind.u32 ((2147483648 : Int) + List.getD c (Int.toNat (↑i : Int)) (RT.dflt RT.u32))] ≤ (137438953472 : Nat) → List.length (rwM c m i) + List.length [(1 : Int), (0 : Int)] ≤ (137438953472 : Nat) ∧ (List.length (rwM c m i) + List.length [(1 : Int), (0 : Int)] ≤ (137438953472 : Nat) → i < List.length c ∧ True ∧ (↑i : Int) + (1 : Int) = (↑(i + (1 : Nat)) : Int) ∧ ((0 : Int) ≤ (↑(i + (1 : Nat)) : Int) ∧ (↑(i + (1 : Nat)) : Int) ≤ (1000000 : Int)) ∧ d = d ∧ c = c ∧ m = m ∧ dr = dr ∧ cr = cr ∧ sy = sy ∧ (0 : Int) = (0 : Int) ∧ false = false ∧ (0 : Int) = (0 : Int) ∧ codeN (full9 d c m dr cr sy) = codeN (full9 d c m dr cr sy) ∧ FErr.isPlaced (full9 d c m dr cr sy) = FErr.isPlaced (full9 d c m dr cr sy) ∧ FErr.pos (full9 d c m dr cr sy) = FErr.pos (full9 d c m dr cr sy) ∧ d = d ∧ dr = dr ∧ rwC c m i ++ [(1610612736 : Int), IntKind.wrap IntKind.u32 ((2147483648 : Int) + List.getD c (Int.toNat (↑i : Int)) (RT.dflt RT.u32))] = rwC c m (i + (1 : Nat)) ∧ rwM c m i ++ [(1 : Int), (0 : Int)] = rwM c m (i + (1 : Nat)) ∧ rwT c m i ++ [(↑(List.length (rwC c m i)) : Int)] = rwT c m (i + (1 : Nat)))))) ∧ ((decide (List.getD m (Int.toNat (↑i : Int)) (RT.dflt RT.u8) = (1 : Int)) && (decide (isaClass (ofF (List.getD c (Int.toNat (↑i : Int)) (RT.dflt RT.u32)) (nextW c (↑i : Int))).op = (2 : Int)) || decide (isaClass (ofF (List.getD c (Int.toNat (↑i : Int)) (RT.dflt RT.u32)) (nextW c (↑i : Int))).op = (3 : Int)))) = false → ((0 : Int) ≤ (↑i : Int) ∧ (↑i : Int) < (↑(List.length c) : Int)) ∧ ((0 : Int) ≤ (↑i : Int) ∧ (↑i : Int) < (↑(List.length c) : Int) → List.length (rwC c m i) + List.length [List.getD c (Int.toNat (↑i : Int)) (RT.dflt RT.u32)] ≤ (137438953472 : Nat) ∧ (List.length (rwC c m i) + List.length [List.getD c (Int.toNat (↑i : Int)) (RT.dflt RT.u32)] ≤ (137438953472 : Nat) → ((0 : Int) ≤ (↑i : Int) ∧ (↑i : Int) < (↑(List.length m) : Int)) ∧ ((0 : Int) ≤ (↑i : Int) ∧ (↑i : Int) < (↑(List.length m) : Int) → List.length (rwM c m i) + List.length [List.getD m (Int.toNat (↑i : Int)) (RT.dflt RT.u8)] ≤ (137438953472 : Nat) ∧ (List.length (rwM c m i) + List.length [List.getD m (Int.toNat (↑i : Int)) (RT.dflt RT.u8)] ≤ (137438953472 : Nat) → i < List.length c ∧ True ∧ (↑i : Int) + (1 : Int) = (↑(i + (1 : Nat)) : Int) ∧ ((0 : Int) ≤ (↑(i + (1 : Nat)) : Int) ∧ (↑(i + (1 : Nat)) : Int) ≤ (1000000 : Int)) ∧ d = d ∧ c = c ∧ m = m ∧ dr = dr ∧ cr = cr ∧ sy = sy ∧ (0 : Int) = (0 : Int) ∧ false = false ∧ (0 : Int) = (0 : Int) ∧ codeN (full9 d c m dr cr sy) = codeN (full9 d c m dr cr sy) ∧ FErr.isPlaced (full9 d c m dr cr sy) = FErr.isPlaced (full9 d c m dr cr sy) ∧ FErr.pos (full9 d c m dr cr sy) = FErr.pos (full9 d c m dr cr sy) ∧ d = d ∧ dr = dr ∧ rwC c m i ++ [List.getD c (Int.toNat (↑i : Int)) (RT.dflt RT.u32)] = rwC c m (i + (1 : Nat)) ∧ rwM c m i ++ [List.getD m (Int.toNat (↑i : Int)) (RT.dflt RT.u8)] = rwM c m (i + (1 : Nat)) ∧ rwT c m i ++ [(↑(List.length (rwC c m i)) : Int)] = rwT c m (i + (1 : Nat)))))))))))) ∧ (decide ((↑i : Int) < (↑(List.length c) : Int)) = false → Nat.beq (0 : Nat) (0 : Nat) = true ∧ d = d ∧ c = c ∧ m = m ∧ dr = dr ∧ cr = cr ∧ sy = sy ∧ (0 : Int) = (0 : Int) ∧ false = false ∧ (0 : Int) = (0 : Int) ∧ codeN (full9 d c m dr cr sy) = codeN (full9 d c m dr cr sy) ∧ FErr.isPlaced (full9 d c m dr cr sy) = FErr.isPlaced (full9 d c m dr cr sy) ∧ FErr.pos (full9 d c m dr cr sy) = FErr.pos (full9 d c m dr cr sy) ∧ d = d ∧ dr = dr ∧ rwC c m i = rwC c m (List.length c) ∧ rwM c m i = rwM c m (List.length c) ∧ rwT c m i = rwT c m (List.length c))) := by kernel_rfl
set_option maxHeartbeats 4000000 in
theorem lRw9A (d c m : List Int) (dr cr : List Rel) (sy : List Sm) {W : World} {R own0 : Nat → Prop} {ρ0 : Nat → Option Value} (hown : HownOk (env (G7 ++ (G9 ++ rest)) [(50, kValid9), (61, kWords), (82, kRelsC), (81, kSecond), (80, krOf), (19, krClass), (26, kBare)]) own0 ρ0) : LOk Tryd.prog (env (G7 ++ (G9 ++ rest)) [(50, kValid9), (61, kWords), (82, kRelsC), (81, kSecond), (80, krOf), (19, krClass), (26, kBare)]) (ctx ea has) (G7 ++ (G9 ++ rest)) W R own0 ρ0 (loopN (bodyOf Tryd.f42) 0) (LRw9A d c m dr cr sy) := by
  refine loop1_ok (env_ok (con := [(50, kValid9), (61, kWords), (82, kRelsC), (81, kSecond), (80, krOf), (19, krClass), (26, kBare)]) ⟨cValid9, cWords, cRelsC, cSecond, crOf, crClass, cBare, trivial⟩) hown (ls := fun i => []) (fun i => noLoops (by kernel_rfl)) (fun hm i hi hj => (bRw9A rest d c m dr cr sy i).mpr ?_) 0 (fun hm => by first | exact Nat.zero_le _ | omega) (fun hm => trivial)
  obtain ⟨v1, v2, v3, v4, v5, v6, _⟩ := valid_size hm
  have d1 : RT.u8.dflt = (0 : Int) := rfl
  have d2 : RT.u32.dflt = (0 : Int) := rfl
  have hC := rwC_len c m i
  have hTl := rwT_len c m i
  rw [Int.toNat_natCast, d1, d2]
  refine ⟨fun h => ?_, fun h => ?_⟩
  · have h := of_decide_eq_true h
    have hlt : i < c.length := by omega
    have hF := isS_isF hm hlt
    refine ⟨by rw [hTl]; simp only [List.length_singleton]; omega, fun _ => ⟨by omega, fun _ => ⟨by omega, fun _ => ⟨by omega, fun _ => ⟨fun g => ?_, fun g => ?_⟩⟩⟩⟩⟩
    · have g' : isF c m i = true := by rw [← hF]; exact g
      have hk : hcW = 1610612736 := by decide +kernel
      have hw : IntKind.u32.wrap (2147483648 + c.getD i 0) = markW (c.getD i 0) := by
        have q := g'
        unfold isF at q
        rw [Bool.and_eq_true, Bool.or_eq_true, decide_eq_true_eq, decide_eq_true_eq, decide_eq_true_eq] at q
        have := class_lt q.2
        have e : markW (c.getD i 0) = 2147483648 + c.getD i 0 := mark_or ⟨by omega, by omega⟩
        rw [e, IntKind.wrap_u32]; omega
      refine ⟨by omega, fun _ => ⟨by simp only [List.length_cons, List.length_nil]; omega, fun _ => ⟨by simp only [List.length_cons, List.length_nil]; omega, fun _ => ⟨hlt, trivial, by omega, by omega, rfl, rfl, rfl, rfl, rfl, rfl, rfl, rfl, rfl, rfl, rfl, rfl, rfl, rfl, ?_, ?_, rfl⟩⟩⟩⟩
      · rw [hw, rwC, if_pos g', hk]
      · rw [rwM, if_pos g']
    · have g' : ¬ isF c m i = true := by rw [← hF, show isS c m i = false from g]; simp
      refine ⟨by omega, fun _ => ⟨by simp only [List.length_cons, List.length_nil]; omega, fun _ => ⟨by omega, fun _ => ⟨by simp only [List.length_cons, List.length_nil]; omega, fun _ => ⟨hlt, trivial, by omega, by omega, rfl, rfl, rfl, rfl, rfl, rfl, rfl, rfl, rfl, rfl, rfl, rfl, rfl, rfl, ?_, ?_, rfl⟩⟩⟩⟩⟩
      · rw [rwC, if_neg g']
      · rw [rwM, if_neg g']
  · have h := of_decide_eq_false h
    have e : i = c.length := by omega
    subst e
    exact ⟨rfl, rfl, rfl, rfl, rfl, rfl, rfl, rfl, rfl, rfl, rfl, rfl, rfl, rfl, rfl, rfl, rfl, rfl⟩
def HRw9B (d c m : List Int) (dr cr : List Rel) (sy : List Sm) (i : Nat) : SState := { fr := rwFr 12 (.sym i 0 1000000), hp := rwHp d c m dr cr sy (rwC c m c.length) (rwM c m c.length) (atT c m) (.own 8) .nilslice ++ [(8, some (.recs .rel ((cr.take i).map (relTo (rwTo c m)))))], next := 9, sz := 174 }
def XRw9B (d c m : List Int) (dr cr : List Rel) (sy : List Sm) : SState := { fr := rwEx, hp := rwHp d c m dr cr sy (rwC c m c.length) (rwM c m c.length) (atT c m) (.own 8) .nilslice ++ [(8, some (.recs .rel (cr.map (relTo (rwTo c m)))))], next := 9, sz := 174 }
def LRw9B (d c m : List Int) (dr cr : List Rel) (sy : List Sm) : LSum := ⟨HRw9B d c m dr cr sy 0, fun k => k (.exit 2) (XRw9B d c m dr cr sy), (validE d c m dr cr sy).isErr = false⟩
theorem bRw9B (rest : List (Nat × SVal)) (d c m : List Int) (dr cr : List Rel) (sy : List Sm) (i : Nat) : (Tr.sat (rnd1 (env (G7 ++ (G9 ++ rest)) [(50, kValid9), (61, kWords), (82, kRelsC), (81, kSecond), (80, krOf), (19, krClass), (26, kBare)]) (fun _ => True) (cr.length) (HRw9B d c m dr cr sy) 2 (XRw9B d c m dr cr sy) i) (run (env (G7 ++ (G9 ++ rest)) [(50, kValid9), (61, kWords), (82, kRelsC), (81, kSecond), (80, krOf), (19, krClass), (26, kBare)]) [] (loopN (bodyOf Tryd.f42) 1) (HRw9B d c m dr cr sy i) .leaf)) = (
  (decide ((↑i : Int) < (↑(List.length cr) : Int)) = true → ((0 : Int) ≤ (↑i : Int) ∧ (↑i : Int) < (↑(List.length cr) : Int)) ∧ ((0 : Int) ≤ (↑i : Int) ∧ (↑i : Int) < (↑(List.length cr) : Int) → ((0 : Int) ≤ (List.getD cr (Int.toNat (↑i : Int)) (RT.dflt RT.rel)).at_ ∧ (List.getD cr (Int.toNat (↑i : Int)) (RT.dflt RT.rel)).at_ < (↑(List.length (atT c m)) : Int)) ∧ ((0 : Int) ≤ (List.getD cr (Int.toNat (↑i : Int)) (RT.dflt RT.rel)).at_ ∧ (List.getD cr (Int.toNat (↑i : Int)) (RT.dflt RT.rel)).at_ < (↑(List.length (atT c m)) : Int) → List.length (List.map (relTo (rwTo c m)) (List.take i cr)) + List.length [Rel.mk (List.getD (atT c m) (Int.toNat (List.getD cr (Int.toNat (↑i : Int)) (RT.dflt RT.rel)).at_) (RT.dflt RT.i64)) (List.getD cr (Int.toNat (↑i : Int)) (RT.dflt RT.rel)).kind (List.getD cr (Int.toNat (↑i : Int)) (RT.dflt RT.rel)).sym (List.getD cr (Int.toNat (↑i : Int)) (RT.dflt RT.rel)).add] ≤ (137438953472 : Nat) ∧ (List.length (List.map (relTo (rwTo c m)) (List.take i cr)) + List.length [Rel.mk (List.getD (atT c m) (Int.toNat (List.getD cr (Int.toNat (↑i : Int)) (RT.dflt RT.rel)).at_) (RT.dflt RT.i64)) (List.getD cr (Int.toNat (↑i : Int)) (RT.dflt RT.rel)).kind (List.getD cr (Int.toNat (↑i : Int)) (RT.dflt RT.rel)).sym (List.getD cr (Int.toNat (↑i : Int)) (RT.dflt RT.rel)).add] ≤ (137438953472 : Nat) → i < List.length cr ∧ True ∧ (↑i : Int) + (1 : Int) = (↑(i + (1 : Nat)) : Int) ∧ ((0 : Int) ≤ (↑(i + (1 : Nat)) : Int) ∧ (↑(i + (1 : Nat)) : Int) ≤ (1000000 : Int)) ∧ d = d ∧ c = c ∧ m = m ∧ dr = dr ∧ cr = cr ∧ sy = sy ∧ (0 : Int) = (0 : Int) ∧ false = false ∧ (0 : Int) = (0 : Int) ∧ codeN (full9 d c m dr cr sy) = codeN (full9 d c m dr cr sy) ∧ FErr.isPlaced (full9 d c m dr cr sy) = FErr.isPlaced (full9 d c m dr cr sy) ∧ FErr.pos (full9 d c m dr cr sy) = FErr.pos (full9 d c m dr cr sy) ∧ d = d ∧ dr = dr ∧ rwC c m (List.length c) = rwC c m (List.length c) ∧ rwM c m (List.length c) = rwM c m (List.length c) ∧ atT c m = atT c m ∧ List.map (relTo (rwTo c m)) (List.take i cr) ++ [Rel.mk (List.getD (atT c m) (Int.toNat (List.getD cr (Int.toNat (↑i : Int)) (RT.dflt RT.rel)).at_) (RT.dflt RT.i64)) (List.getD cr (Int.toNat (↑i : Int)) (RT.dflt RT.rel)).kind (List.getD cr (Int.toNat (↑i : Int)) (RT.dflt RT.rel)).sym (List.getD cr (Int.toNat (↑i : Int)) (RT.dflt RT.rel)).add] = List.map (relTo (rwTo c m)) (List.take (i + (1 : Nat)) cr))))) ∧ (decide ((↑i : Int) < (↑(List.length cr) : Int)) = false → Nat.beq (2 : Nat) (2 : Nat) = true ∧ d = d ∧ c = c ∧ m = m ∧ dr = dr ∧ cr = cr ∧ sy = sy ∧ (0 : Int) = (0 : Int) ∧ false = false ∧ (0 : Int) = (0 : Int) ∧ codeN (full9 d c m dr cr sy) = codeN (full9 d c m dr cr sy) ∧ FErr.isPlaced (full9 d c m dr cr sy) = FErr.isPlaced (full9 d c m dr cr sy) ∧ FErr.pos (full9 d c m dr cr sy) = FErr.pos (full9 d c m dr cr sy) ∧ d = d ∧ dr = dr ∧ rwC c m (List.length c) = rwC c m (List.length c) ∧ rwM c m (List.length c) = rwM c m (List.length c) ∧ atT c m = atT c m ∧ List.map (relTo (rwTo c m)) (List.take i cr) = List.map (relTo (rwTo c m)) cr)) := by kernel_rfl
set_option maxHeartbeats 4000000 in
theorem lRw9B (d c m : List Int) (dr cr : List Rel) (sy : List Sm) {W : World} {R own0 : Nat → Prop} {ρ0 : Nat → Option Value} (hown : HownOk (env (G7 ++ (G9 ++ rest)) [(50, kValid9), (61, kWords), (82, kRelsC), (81, kSecond), (80, krOf), (19, krClass), (26, kBare)]) own0 ρ0) : LOk Tryd.prog (env (G7 ++ (G9 ++ rest)) [(50, kValid9), (61, kWords), (82, kRelsC), (81, kSecond), (80, krOf), (19, krClass), (26, kBare)]) (ctx ea has) (G7 ++ (G9 ++ rest)) W R own0 ρ0 (loopN (bodyOf Tryd.f42) 1) (LRw9B d c m dr cr sy) := by
  refine loop1_ok (env_ok (con := [(50, kValid9), (61, kWords), (82, kRelsC), (81, kSecond), (80, krOf), (19, krClass), (26, kBare)]) ⟨cValid9, cWords, cRelsC, cSecond, crOf, crClass, cBare, trivial⟩) hown (ls := fun i => []) (fun i => noLoops (by kernel_rfl)) (fun hm i hi hj => (bRw9B rest d c m dr cr sy i).mpr ?_) 0 (fun hm => by first | exact Nat.zero_le _ | omega) (fun hm => trivial)
  obtain ⟨v1, v2, v3, v4, v5, v6, _⟩ := valid_size hm
  have d0 : RT.i64.dflt = (0 : Int) := rfl
  have hl := atT_len c m
  rw [Int.toNat_natCast, d0]
  refine ⟨fun h => ?_, fun h => ?_⟩
  · have h := of_decide_eq_true h
    have hlt : i < cr.length := by omega
    obtain ⟨g1, g2⟩ := valid_cr hm hlt
    have hT := atT_get c m g1 g2
    refine ⟨by omega, fun _ => ⟨by omega, fun _ => ⟨by rw [List.length_map, List.length_take]; simp only [List.length_singleton]; omega, fun _ => ⟨hlt, trivial, by omega, by omega, rfl, rfl, rfl, rfl, rfl, rfl, rfl, rfl, rfl, rfl, rfl, rfl, rfl, rfl, rfl, rfl, rfl, ?_⟩⟩⟩⟩
    rw [hT, take_get1 cr RT.rel.dflt hlt, List.map_append]
    rfl
  · have h := of_decide_eq_false h
    have e : i = cr.length := by omega
    subst e
    exact ⟨rfl, rfl, rfl, rfl, rfl, rfl, rfl, rfl, rfl, rfl, rfl, rfl, rfl, rfl, rfl, rfl, rfl, rfl, by rw [List.take_length]⟩
def HRw9C (d c m : List Int) (dr cr : List Rel) (sy : List Sm) (i : Nat) : SState := { fr := rwFr 14 (.sym i 0 1000000), hp := rwHp d c m dr cr sy (rwC c m c.length) (rwM c m c.length) (atT c m) (.own 8) (.own 9) ++ [(8, some (.recs .rel (cr.map (relTo (rwTo c m))))), (9, some (.recs .sym ((sy.take i).map (symTo (rwTo c m)))))], next := 10, sz := 174 }
def XRw9C (d c m : List Int) (dr cr : List Rel) (sy : List Sm) : SState := { fr := rwEx, hp := rwHp d c m dr cr sy (rwC c m c.length) (rwM c m c.length) (atT c m) (.own 8) (.own 9) ++ [(8, some (.recs .rel (cr.map (relTo (rwTo c m))))), (9, some (.recs .sym (sy.map (symTo (rwTo c m)))))], next := 10, sz := 174 }
def LRw9C (d c m : List Int) (dr cr : List Rel) (sy : List Sm) : LSum := ⟨HRw9C d c m dr cr sy 0, fun k => k (.exit 4) (XRw9C d c m dr cr sy), (validE d c m dr cr sy).isErr = false⟩
theorem bRw9C (rest : List (Nat × SVal)) (d c m : List Int) (dr cr : List Rel) (sy : List Sm) (i : Nat) : (Tr.sat (rnd1 (env (G7 ++ (G9 ++ rest)) [(50, kValid9), (61, kWords), (82, kRelsC), (81, kSecond), (80, krOf), (19, krClass), (26, kBare)]) (fun _ => True) (sy.length) (HRw9C d c m dr cr sy) 4 (XRw9C d c m dr cr sy) i) (run (env (G7 ++ (G9 ++ rest)) [(50, kValid9), (61, kWords), (82, kRelsC), (81, kSecond), (80, krOf), (19, krClass), (26, kBare)]) [] (loopN (bodyOf Tryd.f42) 2) (HRw9C d c m dr cr sy i) .leaf)) = (
  (decide ((↑i : Int) < (↑(List.length sy) : Int)) = true → ((0 : Int) ≤ (↑i : Int) ∧ (↑i : Int) < (↑(List.length sy) : Int)) ∧ ((0 : Int) ≤ (↑i : Int) ∧ (↑i : Int) < (↑(List.length sy) : Int) → (decide ((List.getD sy (Int.toNat (↑i : Int)) (RT.dflt RT.sym)).in_ = (2 : Int)) = true → ((0 : Int) ≤ (List.getD sy (Int.toNat (↑i : Int)) (RT.dflt RT.sym)).value ∧ (List.getD sy (Int.toNat (↑i : Int)) (RT.dflt RT.sym)).value < (↑(List.length (atT c m)) : Int)) ∧ ((0 : Int) ≤ (List.getD sy (Int.toNat (↑i : Int)) (RT.dflt RT.sym)).value ∧ (List.getD sy (Int.toNat (↑i : Int)) (RT.dflt RT.sym)).value < (↑(List.length (atT c m)) : Int) → List.length (List.map (symTo (rwTo c m)) (List.take i sy)) + List.length [Sm.mk (List.getD sy (Int.toNat (↑i : Int)) (RT.dflt RT.sym)).name (List.getD sy (Int.toNat (↑i : Int)) (RT.dflt RT.sym)).in_ (List.getD (atT c m) (Int.toNat (List.getD sy (Int.toNat (↑i : Int)) (RT.dflt RT.sym)).value) (RT.dflt RT.i64)) (List.getD sy (Int.toNat (↑i : Int)) (RT.dflt RT.sym)).global] ≤ (137438953472 : Nat) ∧ (List.length (List.map (symTo (rwTo c m)) (List.take i sy)) + List.length [Sm.mk (List.getD sy (Int.toNat (↑i : Int)) (RT.dflt RT.sym)).name (List.getD sy (Int.toNat (↑i : Int)) (RT.dflt RT.sym)).in_ (List.getD (atT c m) (Int.toNat (List.getD sy (Int.toNat (↑i : Int)) (RT.dflt RT.sym)).value) (RT.dflt RT.i64)) (List.getD sy (Int.toNat (↑i : Int)) (RT.dflt RT.sym)).global] ≤ (137438953472 : Nat) → i < List.length sy ∧ True ∧ (↑i : Int) + (1 : Int) = (↑(i + (1 : Nat)) : Int) ∧ ((0 : Int) ≤ (↑(i + (1 : Nat)) : Int) ∧ (↑(i + (1 : Nat)) : Int) ≤ (1000000 : Int)) ∧ d = d ∧ c = c ∧ m = m ∧ dr = dr ∧ cr = cr ∧ sy = sy ∧ (0 : Int) = (0 : Int) ∧ false = false ∧ (0 : Int) = (0 : Int) ∧ codeN (full9 d c m dr cr sy) = codeN (full9 d c m dr cr sy) ∧ FErr.isPlaced (full9 d c m dr cr sy) = FErr.isPlaced (full9 d c m dr cr sy) ∧ FErr.pos (full9 d c m dr cr sy) = FErr.pos (full9 d c m dr cr sy) ∧ d = d ∧ dr = dr ∧ rwC c m (List.length c) = rwC c m (List.length c) ∧ rwM c m (List.length c) = rwM c m (List.length c) ∧ atT c m = atT c m ∧ List.map (relTo (rwTo c m)) cr = List.map (relTo (rwTo c m)) cr ∧ List.map (symTo (rwTo c m)) (List.take i sy) ++ [Sm.mk (List.getD sy (Int.toNat (↑i : Int)) (RT.dflt RT.sym)).name (List.getD sy (Int.toNat (↑i : Int)) (RT.dflt RT.sym)).in_ (List.getD (atT c m) (Int.toNat (List.getD sy (Int.toNat (↑i : Int)) (RT.dflt RT.sym)).value) (RT.dflt RT.i64)) (List.getD sy (Int.toNat (↑i : Int)) (RT.dflt RT.sym)).global] = List.map (symTo (rwTo c m)) (List.take (i + (1 : Nat)) sy)))) ∧ (decide ((List.getD sy (Int.toNat (↑i : Int)) (RT.dflt RT.sym)).in_ = (2 : Int)) = false → List.length (List.map (symTo (rwTo c m)) (List.take i sy)) + List.length [Sm.mk (List.getD sy (Int.toNat (↑i : Int)) (RT.dflt RT.sym)).name (List.getD sy (Int.toNat (↑i : Int)) (RT.dflt RT.sym)).in_ (List.getD sy (Int.toNat (↑i : Int)) (RT.dflt RT.sym)).value (List.getD sy (Int.toNat (↑i : Int)) (RT.dflt RT.sym)).global] ≤ (137438953472 : Nat) ∧ (List.length (List.map (symTo (rwTo c m)) (List.take i sy)) + List.length [Sm.mk (List.getD sy (Int.toNat (↑i : Int)) (RT.dflt RT.sym)).name (List.getD sy (Int.toNat (↑i : Int)) (RT.dflt RT.sym)).in_ (List.getD sy (Int.toNat (↑i : Int)) (RT.dflt RT.sym)).value (List.getD sy (Int.toNat (↑i : Int)) (RT.dflt RT.sym)).global] ≤ (137438953472 : Nat) → i < List.length sy ∧ True ∧ (↑i : Int) + (1 : Int) = (↑(i + (1 : Nat)) : Int) ∧ ((0 : Int) ≤ (↑(i + (1 : Nat)) : Int) ∧ (↑(i + (1 : Nat)) : Int) ≤ (1000000 : Int)) ∧ d = d ∧ c = c ∧ m = m ∧ dr = dr ∧ cr = cr ∧ sy = sy ∧ (0 : Int) = (0 : Int) ∧ false = false ∧ (0 : Int) = (0 : Int) ∧ codeN (full9 d c m dr cr sy) = codeN (full9 d c m dr cr sy) ∧ FErr.isPlaced (full9 d c m dr cr sy) = FErr.isPlaced (full9 d c m dr cr sy) ∧ FErr.pos (full9 d c m dr cr sy) = FErr.pos (full9 d c m dr cr sy) ∧ d = d ∧ dr = dr ∧ rwC c m (List.length c) = rwC c m (List.length c) ∧ rwM c m (List.length c) = rwM c m (List.length c) ∧ atT c m = atT c m ∧ List.map (relTo (rwTo c m)) cr = List.map (relTo (rwTo c m)) cr ∧ List.map (symTo (rwTo c m)) (List.take i sy) ++ [Sm.mk (List.getD sy (Int.toNat (↑i : Int)) (RT.dflt RT.sym)).name (List.getD sy (Int.toNat (↑i : Int)) (RT.dflt RT.sym)).in_ (List.getD sy (Int.toNat (↑i : Int)) (RT.dflt RT.sym)).value (List.getD sy (Int.toNat (↑i : Int)) (RT.dflt RT.sym)).global] = List.map (symTo (rwTo c m)) (List.take (i + (1 : Nat)) sy))))) ∧ (decide ((↑i : Int) < (↑(List.length sy) : Int)) = false → Nat.beq (4 : Nat) (4 : Nat) = true ∧ d = d ∧ c = c ∧ m = m ∧ dr = dr ∧ cr = cr ∧ sy = sy ∧ (0 : Int) = (0 : Int) ∧ false = false ∧ (0 : Int) = (0 : Int) ∧ codeN (full9 d c m dr cr sy) = codeN (full9 d c m dr cr sy) ∧ FErr.isPlaced (full9 d c m dr cr sy) = FErr.isPlaced (full9 d c m dr cr sy) ∧ FErr.pos (full9 d c m dr cr sy) = FErr.pos (full9 d c m dr cr sy) ∧ d = d ∧ dr = dr ∧ rwC c m (List.length c) = rwC c m (List.length c) ∧ rwM c m (List.length c) = rwM c m (List.length c) ∧ atT c m = atT c m ∧ List.map (relTo (rwTo c m)) cr = List.map (relTo (rwTo c m)) cr ∧ List.map (symTo (rwTo c m)) (List.take i sy) = List.map (symTo (rwTo c m)) sy)) := by kernel_rfl
set_option maxHeartbeats 4000000 in
theorem lRw9C (d c m : List Int) (dr cr : List Rel) (sy : List Sm) {W : World} {R own0 : Nat → Prop} {ρ0 : Nat → Option Value} (hown : HownOk (env (G7 ++ (G9 ++ rest)) [(50, kValid9), (61, kWords), (82, kRelsC), (81, kSecond), (80, krOf), (19, krClass), (26, kBare)]) own0 ρ0) : LOk Tryd.prog (env (G7 ++ (G9 ++ rest)) [(50, kValid9), (61, kWords), (82, kRelsC), (81, kSecond), (80, krOf), (19, krClass), (26, kBare)]) (ctx ea has) (G7 ++ (G9 ++ rest)) W R own0 ρ0 (loopN (bodyOf Tryd.f42) 2) (LRw9C d c m dr cr sy) := by
  refine loop1_ok (env_ok (con := [(50, kValid9), (61, kWords), (82, kRelsC), (81, kSecond), (80, krOf), (19, krClass), (26, kBare)]) ⟨cValid9, cWords, cRelsC, cSecond, crOf, crClass, cBare, trivial⟩) hown (ls := fun i => []) (fun i => noLoops (by kernel_rfl)) (fun hm i hi hj => (bRw9C rest d c m dr cr sy i).mpr ?_) 0 (fun hm => by first | exact Nat.zero_le _ | omega) (fun hm => trivial)
  obtain ⟨v1, v2, v3, v4, v5, v6, _⟩ := valid_size hm
  have d0 : RT.i64.dflt = (0 : Int) := rfl
  have hl := atT_len c m
  rw [Int.toNat_natCast, d0]
  refine ⟨fun h => ?_, fun h => ?_⟩
  · have h := of_decide_eq_true h
    have hlt : i < sy.length := by omega
    have hc := fun h => valid_code hm hlt h
    have ht := take_get1 sy RT.sym.dflt hlt
    refine ⟨by omega, fun _ => ⟨fun g => ?_, fun g => ?_⟩⟩
    · have g := of_decide_eq_true g
      have hg := hc g
      have hT := atT_get c m hg.1 hg.2
      refine ⟨by omega, fun _ => ⟨by rw [List.length_map, List.length_take]; simp only [List.length_singleton]; omega, fun _ => ⟨hlt, trivial, by omega, by omega, rfl, rfl, rfl, rfl, rfl, rfl, rfl, rfl, rfl, rfl, rfl, rfl, rfl, rfl, rfl, rfl, rfl, rfl, ?_⟩⟩⟩
      rw [hT, ht, List.map_append, List.map_singleton]
      unfold symTo
      rw [if_pos g]
    · have g := of_decide_eq_false g
      refine ⟨by rw [List.length_map, List.length_take]; simp only [List.length_singleton]; omega, fun _ => ⟨hlt, trivial, by omega, by omega, rfl, rfl, rfl, rfl, rfl, rfl, rfl, rfl, rfl, rfl, rfl, rfl, rfl, rfl, rfl, rfl, rfl, rfl, ?_⟩⟩
      rw [ht, List.map_append, List.map_singleton]
      unfold symTo
      rw [if_neg g]
  · have h := of_decide_eq_false h
    have e : i = sy.length := by omega
    subst e
    exact ⟨rfl, rfl, rfl, rfl, rfl, rfl, rfl, rfl, rfl, rfl, rfl, rfl, rfl, rfl, rfl, rfl, rfl, rfl, rfl, by rw [List.take_length]⟩
theorem codeN_full (d c m : List Int) (dr cr : List Rel) (sy : List Sm) : codeN (validE d c m dr cr sy) = 0 ↔ (validE d c m dr cr sy).isErr = false := by
  rw [← full9_eq]
  unfold full9
  split
  · exact ⟨fun h => absurd h (by decide), fun h => by cases h⟩
  · split
    · exact ⟨fun h => absurd h (by decide), fun h => by cases h⟩
    · exact codeN_vld d c m dr cr sy c.length
def kRw9 : List SVal → Nat → Acc ORes := fun a n => match a with | [.agg [.ro .u32 d, .ro .u32 c, .ro .u8 m, .ro .rel dr, .ro .rel cr, .ro .sym sy]] => .ret ({ v := .tuple [.agg [.ro .u32 (ifOk (doE d c m dr cr sy) d), .ro .u32 (doC (doE d c m dr cr sy) c m), .ro .u8 (doM (doE d c m dr cr sy) c m), .ro .rel (ifOk (doE d c m dr cr sy) dr), .ro .rel (doR (doE d c m dr cr sy) c m cr), .ro .sym (doS (doE d c m dr cr sy) c m sy)], .ro .i64 (doT (doE d c m dr cr sy) c m), rF (doE d c m dr cr sy)] }) | _ => .fail "Rw9"
theorem argRw9 (d c m : List Int) (dr cr : List Rel) (sy : List Sm) : (all (subL 134 none' [] deep [.agg [.ro .u32 d, .ro .u32 c, .ro .u8 m, .ro .rel dr, .ro .rel cr, .ro .sym sy]] [.agg [.ro .u32 d, .ro .u32 c, .ro .u8 m, .ro .rel dr, .ro .rel cr, .ro .sym sy]])) = (
  d = d ∧ c = c ∧ m = m ∧ dr = dr ∧ cr = cr ∧ sy = sy) := by kernel_rfl
theorem runRw9 (rest : List (Nat × SVal)) (d c m : List Int) (dr cr : List Rel) (sy : List Sm) : (Tr.sat (plainQ (.tuple [.agg [.ro .u32 (ifOk (doE d c m dr cr sy) d), .ro .u32 (doC (doE d c m dr cr sy) c m), .ro .u8 (doM (doE d c m dr cr sy) c m), .ro .rel (ifOk (doE d c m dr cr sy) dr), .ro .rel (doR (doE d c m dr cr sy) c m cr), .ro .sym (doS (doE d c m dr cr sy) c m sy)], .ro .i64 (doT (doE d c m dr cr sy) c m), rF (doE d c m dr cr sy)])) (run (env (G7 ++ (G9 ++ rest)) [(50, kValid9), (61, kWords), (82, kRelsC), (81, kSecond), (80, krOf), (19, krClass), (26, kBare)]) [(7, LRw9A d c m dr cr sy), (21, LRw9B d c m dr cr sy), (27, LRw9C d c m dr cr sy)] (bodyOf Tryd.f42) (start [.agg [.ro .u32 d, .ro .u32 c, .ro .u8 m, .ro .rel dr, .ro .rel cr, .ro .sym sy]] 174) (ends (env (G7 ++ (G9 ++ rest)) [(50, kValid9), (61, kWords), (82, kRelsC), (81, kSecond), (80, krOf), (19, krClass), (26, kBare)]) Tryd.f42.results.toList))) = (
  ((!decide (codeN (full9 d c m dr cr sy) = (0 : Int))) = true → ifOk (doE d c m dr cr sy) d = @List.nil (RT.ty RT.u32) ∧ doC (doE d c m dr cr sy) c m = @List.nil (RT.ty RT.u32) ∧ doM (doE d c m dr cr sy) c m = @List.nil (RT.ty RT.u8) ∧ ifOk (doE d c m dr cr sy) dr = @List.nil (RT.ty RT.rel) ∧ doR (doE d c m dr cr sy) c m cr = @List.nil (RT.ty RT.rel) ∧ doS (doE d c m dr cr sy) c m sy = @List.nil (RT.ty RT.sym) ∧ @List.nil (RT.ty RT.i64) = doT (doE d c m dr cr sy) c m ∧ codeN (full9 d c m dr cr sy) = codeN (doE d c m dr cr sy) ∧ FErr.isPlaced (full9 d c m dr cr sy) = FErr.isPlaced (doE d c m dr cr sy) ∧ FErr.pos (full9 d c m dr cr sy) = FErr.pos (doE d c m dr cr sy)) ∧ ((!decide (codeN (full9 d c m dr cr sy) = (0 : Int))) = false → List.length d ≤ (1000000 : Nat) ∧ (List.length d ≤ (1000000 : Nat) → List.length dr ≤ (1000000 : Nat) ∧ (List.length dr ≤ (1000000 : Nat) → (FErr.isErr (validE d c m dr cr sy) = false ∧ (0 : Int) = (↑(0 : Nat) : Int) ∧ d = d ∧ c = c ∧ m = m ∧ dr = dr ∧ cr = cr ∧ sy = sy ∧ (0 : Int) = (0 : Int) ∧ false = false ∧ (0 : Int) = (0 : Int) ∧ codeN (full9 d c m dr cr sy) = codeN (full9 d c m dr cr sy) ∧ FErr.isPlaced (full9 d c m dr cr sy) = FErr.isPlaced (full9 d c m dr cr sy) ∧ FErr.pos (full9 d c m dr cr sy) = FErr.pos (full9 d c m dr cr sy) ∧ d = d ∧ dr = dr ∧ rwC c m (0 : Nat) = @List.nil (RT.ty RT.u32) ∧ rwM c m (0 : Nat) = @List.nil (RT.ty RT.u8) ∧ @List.nil (RT.ty RT.i64) = rwT c m (0 : Nat)) ∧ (FErr.isErr (validE d c m dr cr sy) = false ∧ (0 : Int) = (↑(0 : Nat) : Int) ∧ d = d ∧ c = c ∧ m = m ∧ dr = dr ∧ cr = cr ∧ sy = sy ∧ (0 : Int) = (0 : Int) ∧ false = false ∧ (0 : Int) = (0 : Int) ∧ codeN (full9 d c m dr cr sy) = codeN (full9 d c m dr cr sy) ∧ FErr.isPlaced (full9 d c m dr cr sy) = FErr.isPlaced (full9 d c m dr cr sy) ∧ FErr.pos (full9 d c m dr cr sy) = FErr.pos (full9 d c m dr cr sy) ∧ d = d ∧ dr = dr ∧ rwC c m (0 : Nat) = @List.nil (RT.ty RT.u32) ∧ rwM c m (0 : Nat) = @List.nil (RT.ty RT.u8) ∧ @List.nil (RT.ty RT.i64) = rwT c m (0 : Nat) → List.length (rwT c m (List.length c)) + List.length [(↑(List.length (rwC c m (List.length c))) : Int)] ≤ (137438953472 : Nat) ∧ (List.length (rwT c m (List.length c)) + List.length [(↑(List.length (rwC c m (List.length c))) : Int)] ≤ (137438953472 : Nat) → (decide ((2048 : Int) < (↑(List.length (rwC c m (List.length c))) : Int)) = true → ifOk (doE d c m dr cr sy) d = @List.nil (RT.ty RT.u32) ∧ doC (doE d c m dr cr sy) c m = @List.nil (RT.ty RT.u32) ∧ doM (doE d c m dr cr sy) c m = @List.nil (RT.ty RT.u8) ∧ ifOk (doE d c m dr cr sy) dr = @List.nil (RT.ty RT.rel) ∧ doR (doE d c m dr cr sy) c m cr = @List.nil (RT.ty RT.rel) ∧ doS (doE d c m dr cr sy) c m sy = @List.nil (RT.ty RT.sym) ∧ @List.nil (RT.ty RT.i64) = doT (doE d c m dr cr sy) c m ∧ (104 : Int) = codeN (doE d c m dr cr sy) ∧ false = FErr.isPlaced (doE d c m dr cr sy) ∧ (0 : Int) = FErr.pos (doE d c m dr cr sy)) ∧ (decide ((2048 : Int) < (↑(List.length (rwC c m (List.length c))) : Int)) = false → (FErr.isErr (validE d c m dr cr sy) = false ∧ (0 : Int) = (↑(0 : Nat) : Int) ∧ d = d ∧ c = c ∧ m = m ∧ dr = dr ∧ cr = cr ∧ sy = sy ∧ (0 : Int) = (0 : Int) ∧ false = false ∧ (0 : Int) = (0 : Int) ∧ codeN (full9 d c m dr cr sy) = codeN (full9 d c m dr cr sy) ∧ FErr.isPlaced (full9 d c m dr cr sy) = FErr.isPlaced (full9 d c m dr cr sy) ∧ FErr.pos (full9 d c m dr cr sy) = FErr.pos (full9 d c m dr cr sy) ∧ d = d ∧ dr = dr ∧ rwC c m (List.length c) = rwC c m (List.length c) ∧ rwM c m (List.length c) = rwM c m (List.length c) ∧ rwT c m (List.length c) ++ [(↑(List.length (rwC c m (List.length c))) : Int)] = atT c m ∧ List.map (relTo (rwTo c m)) (List.take (0 : Nat) cr) = @List.nil (RT.ty RT.rel)) ∧ (FErr.isErr (validE d c m dr cr sy) = false ∧ (0 : Int) = (↑(0 : Nat) : Int) ∧ d = d ∧ c = c ∧ m = m ∧ dr = dr ∧ cr = cr ∧ sy = sy ∧ (0 : Int) = (0 : Int) ∧ false = false ∧ (0 : Int) = (0 : Int) ∧ codeN (full9 d c m dr cr sy) = codeN (full9 d c m dr cr sy) ∧ FErr.isPlaced (full9 d c m dr cr sy) = FErr.isPlaced (full9 d c m dr cr sy) ∧ FErr.pos (full9 d c m dr cr sy) = FErr.pos (full9 d c m dr cr sy) ∧ d = d ∧ dr = dr ∧ rwC c m (List.length c) = rwC c m (List.length c) ∧ rwM c m (List.length c) = rwM c m (List.length c) ∧ rwT c m (List.length c) ++ [(↑(List.length (rwC c m (List.length c))) : Int)] = atT c m ∧ List.map (relTo (rwTo c m)) (List.take (0 : Nat) cr) = @List.nil (RT.ty RT.rel) → (FErr.isErr (validE d c m dr cr sy) = false ∧ (0 : Int) = (↑(0 : Nat) : Int) ∧ d = d ∧ c = c ∧ m = m ∧ dr = dr ∧ cr = cr ∧ sy = sy ∧ (0 : Int) = (0 : Int) ∧ false = false ∧ (0 : Int) = (0 : Int) ∧ codeN (full9 d c m dr cr sy) = codeN (full9 d c m dr cr sy) ∧ FErr.isPlaced (full9 d c m dr cr sy) = FErr.isPlaced (full9 d c m dr cr sy) ∧ FErr.pos (full9 d c m dr cr sy) = FErr.pos (full9 d c m dr cr sy) ∧ d = d ∧ dr = dr ∧ rwC c m (List.length c) = rwC c m (List.length c) ∧ rwM c m (List.length c) = rwM c m (List.length c) ∧ atT c m = atT c m ∧ List.map (relTo (rwTo c m)) cr = List.map (relTo (rwTo c m)) cr ∧ List.map (symTo (rwTo c m)) (List.take (0 : Nat) sy) = @List.nil (RT.ty RT.sym)) ∧ (FErr.isErr (validE d c m dr cr sy) = false ∧ (0 : Int) = (↑(0 : Nat) : Int) ∧ d = d ∧ c = c ∧ m = m ∧ dr = dr ∧ cr = cr ∧ sy = sy ∧ (0 : Int) = (0 : Int) ∧ false = false ∧ (0 : Int) = (0 : Int) ∧ codeN (full9 d c m dr cr sy) = codeN (full9 d c m dr cr sy) ∧ FErr.isPlaced (full9 d c m dr cr sy) = FErr.isPlaced (full9 d c m dr cr sy) ∧ FErr.pos (full9 d c m dr cr sy) = FErr.pos (full9 d c m dr cr sy) ∧ d = d ∧ dr = dr ∧ rwC c m (List.length c) = rwC c m (List.length c) ∧ rwM c m (List.length c) = rwM c m (List.length c) ∧ atT c m = atT c m ∧ List.map (relTo (rwTo c m)) cr = List.map (relTo (rwTo c m)) cr ∧ List.map (symTo (rwTo c m)) (List.take (0 : Nat) sy) = @List.nil (RT.ty RT.sym) → d = ifOk (doE d c m dr cr sy) d ∧ rwC c m (List.length c) = doC (doE d c m dr cr sy) c m ∧ rwM c m (List.length c) = doM (doE d c m dr cr sy) c m ∧ dr = ifOk (doE d c m dr cr sy) dr ∧ List.map (relTo (rwTo c m)) cr = doR (doE d c m dr cr sy) c m cr ∧ List.map (symTo (rwTo c m)) sy = doS (doE d c m dr cr sy) c m sy ∧ atT c m = doT (doE d c m dr cr sy) c m ∧ codeN (full9 d c m dr cr sy) = codeN (doE d c m dr cr sy) ∧ FErr.isPlaced (full9 d c m dr cr sy) = FErr.isPlaced (doE d c m dr cr sy) ∧ FErr.pos (full9 d c m dr cr sy) = FErr.pos (doE d c m dr cr sy)))))))))) := by kernel_rfl
set_option maxHeartbeats 4000000 in
theorem cRw9 : Con ea has (G7 ++ (G9 ++ rest)) 42 kRw9 := by
  refine plain_mk Tryd.func42 174 (con := [(50, kValid9), (61, kWords), (82, kRelsC), (81, kSecond), (80, krOf), (19, krClass), (26, kBare)]) ⟨cValid9, cWords, cRelsC, cSecond, crOf, crClass, cBare, trivial⟩ (fun hA hr hv => ?_) (by kernel_rfl) (by kernel_rfl) Tryd.ntmps42
  unfold kRw9 at hr; split at hr
  · rename_i d c m dr cr sy
    have := ret_ok hr; subst this
    refine ⟨_, [(7, LRw9A d c m dr cr sy), (21, LRw9B d c m dr cr sy), (27, LRw9C d c m dr cr sy)], rfl, rfl, (argRw9 d c m dr cr sy).mpr (by simp), rfl, (fun W R ρ0 own0 hown => hl3 (by kernel_rfl) (by kernel_rfl) (lRw9A d c m dr cr sy hown) (by kernel_rfl) (lRw9B d c m dr cr sy hown) (by kernel_rfl) (lRw9C d c m dr cr sy hown)), (runRw9 rest d c m dr cr sy).mpr ?_⟩
    clear hr
    rw [full9_eq]
    have hq := codeN_full d c m dr cr sy
    refine ⟨fun h => ?_, fun h => ?_⟩
    · have hE : (validE d c m dr cr sy).isErr = true := by
        cases hh : (validE d c m dr cr sy).isErr with
        | true => rfl
        | false => rw [decide_eq_true (hq.2 hh)] at h; cases h
      have e : doE d c m dr cr sy = validE d c m dr cr sy := by rw [doE, if_pos hE]
      rw [e]
      simp [doC, doM, doR, doS, doT, ifOk, hE]
    · have hv : (validE d c m dr cr sy).isErr = false := hq.1 (by simpa using h)
      obtain ⟨v1, v2, v3, v4, v5, v6, _⟩ := valid_size hv
      have hn := rwC_cnt hv c.length (Nat.le_refl _)
      have ha : (sitesM d c m dr cr sy).length = ahead c m c.length := by
        unfold sitesM; rw [if_neg (by rw [hv]; simp), v2]; rfl
      have hl := rwT_len c m c.length
      have hal := ahead_le c m c.length
      refine ⟨by omega, fun _ => ⟨by omega, fun _ => ⟨⟨hv, rfl, rfl, rfl, rfl, rfl, rfl, rfl, rfl, rfl, rfl, rfl, rfl, rfl, rfl, rfl, rfl, rfl, rfl⟩, fun _ => ⟨by rw [hl]; simp only [List.length_singleton]; omega, fun _ => ⟨fun g => ?_, fun g => ?_⟩⟩⟩⟩⟩
      · have g := of_decide_eq_true g
        have e : doE d c m dr cr sy = .bare 104 := by rw [doE, if_neg (by rw [hv]; simp), if_pos (by omega)]
        rw [e]
        exact ⟨rfl, rfl, rfl, rfl, rfl, rfl, rfl, rfl, rfl, rfl⟩
      · have g := of_decide_eq_false g
        have e : doE d c m dr cr sy = .fine := by rw [doE, if_neg (by rw [hv]; simp), if_neg (by omega)]
        rw [e, fine_of hv]
        exact ⟨⟨rfl, rfl, rfl, rfl, rfl, rfl, rfl, rfl, rfl, rfl, rfl, rfl, rfl, rfl, rfl, rfl, rfl, rfl, rfl, rfl⟩, fun _ => ⟨⟨rfl, rfl, rfl, rfl, rfl, rfl, rfl, rfl, rfl, rfl, rfl, rfl, rfl, rfl, rfl, rfl, rfl, rfl, rfl, rfl, rfl⟩, fun _ => ⟨rfl, rfl, rfl, rfl, rfl, rfl, rfl, rfl, rfl, rfl⟩⟩⟩
  · cases hr
theorem senN_in {n : Int} (h : 101 ≤ n ∧ n ≤ 116) : senN (.bare n) = n := by unfold senN; simp only; rw [if_pos h]
theorem fc_first {b : Nat → Int} (hb : ∀ i, b i = 0 ∨ (101 ≤ b i ∧ b i ≤ 116)) : ∀ n, fcode (firstE (fun i => badE (b i)) n) = codeN (firstE (fun i => badE (b i)) n)
  | 0 => rfl
  | n + 1 => by
    rw [firstE]
    by_cases e : (firstE (fun i => badE (b i)) n).isErr = true
    · rw [if_pos e]; exact fc_first hb n
    · rw [if_neg e]
      by_cases g : b n = 0
      · have : badE (b n) = .fine := by unfold badE; rw [if_pos g]
        rw [this]; rfl
      · have : badE (b n) = .bare (b n) := by unfold badE; rw [if_neg g]
        rw [this, if_pos (show (FErr.bare (b n)).isErr = true from rfl)]
        exact senN_in ((hb n).resolve_left g)
theorem dup9_rng (sy : List Sm) (o : Nat) : ∀ n, dup9 sy o n = 0 ∨ (101 ≤ dup9 sy o n ∧ dup9 sy o n ≤ 116)
  | 0 => by rw [dup9]; unfold nam9; split <;> omega
  | n + 1 => by
    have := dup9_rng sy o n
    rw [dup9]; split
    · split <;> omega
    · exact this
theorem fc_full (d c m : List Int) (dr cr : List Rel) (sy : List Sm) : fcode (validE d c m dr cr sy) = codeN (validE d c m dr cr sy) := by
  rw [← full9_eq]
  have h1 := fc_first (b := bad9 c m) (fun i => by unfold bad9; (repeat' split) <;> omega) c.length
  have h2 := fc_first (b := bsy9 d c m sy) (fun i => by
    have := dup9_rng sy i i
    unfold bsy9; split
    · split <;> omega
    · exact this) sy.length
  have h3 := fc_first (b := bdr9 d dr sy) (fun i => by unfold bdr9; (repeat' split) <;> omega) dr.length
  have h4 := fc_first (b := bcr9 c m cr sy) (fun i => by unfold bcr9; (repeat' split) <;> omega) cr.length
  have h5 := fc_first (b := bnd9 c m cr) (fun i => by unfold bnd9; (repeat' split) <;> omega) c.length
  unfold full9
  split
  · exact senN_in (n := 104) (by omega)
  · split
    · exact senN_in (n := 109) (by omega)
    · unfold vld9 bas9
      (repeat' split) <;> first | exact h1 | exact h2 | exact h3 | exact h4 | exact h5
theorem fc_do (d c m : List Int) (dr cr : List Rel) (sy : List Sm) : fcode (doE d c m dr cr sy) = codeN (doE d c m dr cr sy) := by
  unfold doE
  split
  · exact fc_full d c m dr cr sy
  · split
    · exact senN_in (n := 104) (by omega)
    · rfl
def kRewriteSays : List SVal → Nat → Acc ORes := fun a n => match a with | [.agg [.ro .u32 d, .ro .u32 c, .ro .u8 m, .ro .rel dr, .ro .rel cr, .ro .sym sy], .int .u32 w] => .ret ({ v := .bool (.lit true) }) | _ => .fail "RewriteSays"
theorem argRewriteSays (d c m : List Int) (dr cr : List Rel) (sy : List Sm) (w : SI) : (all (subL 134 none' [] deep [.agg [.ro .u32 d, .ro .u32 c, .ro .u8 m, .ro .rel dr, .ro .rel cr, .ro .sym sy], .int .u32 w] [.agg [.ro .u32 d, .ro .u32 c, .ro .u8 m, .ro .rel dr, .ro .rel cr, .ro .sym sy], .int .u32 (.full w.val)])) = (
  d = d ∧ c = c ∧ m = m ∧ dr = dr ∧ cr = cr ∧ sy = sy ∧ SI.val w = SI.val w) := by kernel_rfl
theorem runRewriteSays (rest : List (Nat × SVal)) (d c m : List Int) (dr cr : List Rel) (sy : List Sm) (w : SI) : (Tr.sat (plainQ (.bool (.lit true))) (run (env (G7 ++ (G9 ++ rest)) [(32, kfirst11), (33, kDo), (17, kLight), (42, kRw9), (34, kNeeds), (38, kBack), (39, krBack), (27, kSeeSame), (31, kSameObject), (43, kfI), (40, kSameInstr)]) [] (bodyOf Tryd.f10) (start [.agg [.ro .u32 d, .ro .u32 c, .ro .u8 m, .ro .rel dr, .ro .rel cr, .ro .sym sy], .int .u32 (.full w.val)] 104) (ends (env (G7 ++ (G9 ++ rest)) [(32, kfirst11), (33, kDo), (17, kLight), (42, kRw9), (34, kNeeds), (38, kBack), (39, krBack), (27, kSeeSame), (31, kSameObject), (43, kfI), (40, kSameInstr)]) Tryd.f10.results.toList))) = (
  ((0 : Int) ≤ (200 : Int) ∧ (200 : Int) ≤ (1000000 : Int)) ∧ ((0 : Int) ≤ (200 : Int) ∧ (200 : Int) ≤ (1000000 : Int) → ((!(!lightB d c m dr cr sy (200 : Int) && noneP (longP sy) (List.length sy))) = true → true = true) ∧ ((!(!lightB d c m dr cr sy (200 : Int) && noneP (longP sy) (List.length sy))) = false → ((!!(decide (fcode (doE d c m dr cr sy) = codeN (doE d c m dr cr sy)) && FErr.isPlaced (doE d c m dr cr sy) == FErr.isPlaced (doE d c m dr cr sy) && decide (FErr.pos (doE d c m dr cr sy) = FErr.pos (doE d c m dr cr sy)))) = true → lenOb (ifOk (doE d c m dr cr sy) d) (doC (doE d c m dr cr sy) c m) (doM (doE d c m dr cr sy) c m) (ifOk (doE d c m dr cr sy) dr) (doR (doE d c m dr cr sy) c m cr) (doS (doE d c m dr cr sy) c m sy)) ∧ (((!!(decide (fcode (doE d c m dr cr sy) = codeN (doE d c m dr cr sy)) && FErr.isPlaced (doE d c m dr cr sy) == FErr.isPlaced (doE d c m dr cr sy) && decide (FErr.pos (doE d c m dr cr sy) = FErr.pos (doE d c m dr cr sy)))) = true → lenOb (ifOk (doE d c m dr cr sy) d) (doC (doE d c m dr cr sy) c m) (doM (doE d c m dr cr sy) c m) (ifOk (doE d c m dr cr sy) dr) (doR (doE d c m dr cr sy) c m cr) (doS (doE d c m dr cr sy) c m sy)) → ((!(!(decide (fcode (doE d c m dr cr sy) = codeN (doE d c m dr cr sy)) && FErr.isPlaced (doE d c m dr cr sy) == FErr.isPlaced (doE d c m dr cr sy) && decide (FErr.pos (doE d c m dr cr sy) = FErr.pos (doE d c m dr cr sy))) || !sameOb (ifOk (doE d c m dr cr sy) d) (doC (doE d c m dr cr sy) c m) (doM (doE d c m dr cr sy) c m) (ifOk (doE d c m dr cr sy) dr) (doR (doE d c m dr cr sy) c m cr) (doS (doE d c m dr cr sy) c m sy) (ifOk (doE d c m dr cr sy) d) (doC (doE d c m dr cr sy) c m) (doM (doE d c m dr cr sy) c m) (ifOk (doE d c m dr cr sy) dr) (doR (doE d c m dr cr sy) c m cr) (doS (doE d c m dr cr sy) c m sy))) = true → List.length (doT (doE d c m dr cr sy) c m) ≤ (1000000 : Nat)) ∧ (((!(!(decide (fcode (doE d c m dr cr sy) = codeN (doE d c m dr cr sy)) && FErr.isPlaced (doE d c m dr cr sy) == FErr.isPlaced (doE d c m dr cr sy) && decide (FErr.pos (doE d c m dr cr sy) = FErr.pos (doE d c m dr cr sy))) || !sameOb (ifOk (doE d c m dr cr sy) d) (doC (doE d c m dr cr sy) c m) (doM (doE d c m dr cr sy) c m) (ifOk (doE d c m dr cr sy) dr) (doR (doE d c m dr cr sy) c m cr) (doS (doE d c m dr cr sy) c m sy) (ifOk (doE d c m dr cr sy) d) (doC (doE d c m dr cr sy) c m) (doM (doE d c m dr cr sy) c m) (ifOk (doE d c m dr cr sy) dr) (doR (doE d c m dr cr sy) c m cr) (doS (doE d c m dr cr sy) c m sy))) = true → List.length (doT (doE d c m dr cr sy) c m) ≤ (1000000 : Nat)) → ((!(decide (fcode (doE d c m dr cr sy) = codeN (doE d c m dr cr sy)) && FErr.isPlaced (doE d c m dr cr sy) == FErr.isPlaced (doE d c m dr cr sy) && decide (FErr.pos (doE d c m dr cr sy) = FErr.pos (doE d c m dr cr sy))) || !sameOb (ifOk (doE d c m dr cr sy) d) (doC (doE d c m dr cr sy) c m) (doM (doE d c m dr cr sy) c m) (ifOk (doE d c m dr cr sy) dr) (doR (doE d c m dr cr sy) c m cr) (doS (doE d c m dr cr sy) c m sy) (ifOk (doE d c m dr cr sy) d) (doC (doE d c m dr cr sy) c m) (doM (doE d c m dr cr sy) c m) (ifOk (doE d c m dr cr sy) dr) (doR (doE d c m dr cr sy) c m cr) (doS (doE d c m dr cr sy) c m sy) || !decide (doT (doE d c m dr cr sy) c m = doT (doE d c m dr cr sy) c m) || !backB (SI.val w) == backB (SI.val w) || !decide (In5.mk (backI (SI.val w)).op (backI (SI.val w)).a (backI (SI.val w)).b (backI (SI.val w)).c (backI (SI.val w)).imm = In5.mk (backI (SI.val w)).op (backI (SI.val w)).a (backI (SI.val w)).b (backI (SI.val w)).c (backI (SI.val w)).imm)) = true → false = true) ∧ ((!(decide (fcode (doE d c m dr cr sy) = codeN (doE d c m dr cr sy)) && FErr.isPlaced (doE d c m dr cr sy) == FErr.isPlaced (doE d c m dr cr sy) && decide (FErr.pos (doE d c m dr cr sy) = FErr.pos (doE d c m dr cr sy))) || !sameOb (ifOk (doE d c m dr cr sy) d) (doC (doE d c m dr cr sy) c m) (doM (doE d c m dr cr sy) c m) (ifOk (doE d c m dr cr sy) dr) (doR (doE d c m dr cr sy) c m cr) (doS (doE d c m dr cr sy) c m sy) (ifOk (doE d c m dr cr sy) d) (doC (doE d c m dr cr sy) c m) (doM (doE d c m dr cr sy) c m) (ifOk (doE d c m dr cr sy) dr) (doR (doE d c m dr cr sy) c m cr) (doS (doE d c m dr cr sy) c m sy) || !decide (doT (doE d c m dr cr sy) c m = doT (doE d c m dr cr sy) c m) || !backB (SI.val w) == backB (SI.val w) || !decide (In5.mk (backI (SI.val w)).op (backI (SI.val w)).a (backI (SI.val w)).b (backI (SI.val w)).c (backI (SI.val w)).imm = In5.mk (backI (SI.val w)).op (backI (SI.val w)).a (backI (SI.val w)).b (backI (SI.val w)).c (backI (SI.val w)).imm)) = false → ((!decide (codeN (doE d c m dr cr sy) = (0 : Int))) = true → (decide (fcode (validE d c m dr cr sy) = codeN (doE d c m dr cr sy)) && FErr.isPlaced (validE d c m dr cr sy) == FErr.isPlaced (doE d c m dr cr sy) && decide (FErr.pos (validE d c m dr cr sy) = FErr.pos (doE d c m dr cr sy)) && decide ((if FErr.isErr (validE d c m dr cr sy) = true then (0 : Int) else (↑(List.length c) : Int) + (↑(List.length (sitesM d c m dr cr sy)) : Int)) = (0 : Int))) = true) ∧ ((!decide (codeN (doE d c m dr cr sy) = (0 : Int))) = false → (!FErr.isErr (validE d c m dr cr sy) && decide ((if FErr.isErr (validE d c m dr cr sy) = true then (0 : Int) else (↑(List.length c) : Int) + (↑(List.length (sitesM d c m dr cr sy)) : Int)) = (↑(List.length (doC (doE d c m dr cr sy) c m)) : Int))) = true))))))) := by kernel_rfl
set_option maxHeartbeats 4000000 in
theorem cRewriteSays : Con ea has (G7 ++ (G9 ++ rest)) 10 kRewriteSays := by
  refine plain_mk Tryd.func10 104 (con := [(32, kfirst11), (33, kDo), (17, kLight), (42, kRw9), (34, kNeeds), (38, kBack), (39, krBack), (27, kSeeSame), (31, kSameObject), (43, kfI), (40, kSameInstr)]) ⟨cfirst11, cDo, cLight, cRw9, cNeeds, cBack, crBack, cSeeSame, cSameObject, cfI, cSameInstr, trivial⟩ (fun hA hr hv => ?_) (by kernel_rfl) (by kernel_rfl) Tryd.ntmps10
  unfold kRewriteSays at hr; split at hr
  · rename_i d c m dr cr sy w
    have := ret_ok hr; subst this
    refine ⟨_, [], rfl, rfl, (argRewriteSays d c m dr cr sy w).mpr (by simp), rfl, (fun W R ρ0 own0 hown => noLoops (by kernel_rfl)), (runRewriteSays rest d c m dr cr sy w).mpr ?_⟩
    clear hr
    clear hv
    refine ⟨by decide, fun _ => ⟨fun _ => rfl, fun h => ?_⟩⟩
    have hc : c.length ≤ 200 := by
      have : lightB d c m dr cr sy 200 = false := by
        cases hb : lightB d c m dr cr sy 200 with
        | false => rfl
        | true => rw [hb] at h; simp at h
      unfold lightB at this
      simp only [Bool.or_eq_false_iff, decide_eq_false_iff_not] at this
      omega
    have q1 : (decide (fcode (doE d c m dr cr sy) = codeN (doE d c m dr cr sy)) && (doE d c m dr cr sy).isPlaced == (doE d c m dr cr sy).isPlaced && decide ((doE d c m dr cr sy).pos = (doE d c m dr cr sy).pos)) = true := by rw [fc_do]; simp
    have hs : ∀ (a b e : List Int) (f g : List Rel) (k : List Sm), sameOb a b e f g k a b e f g k = true := fun a b e f g k => by unfold sameOb; simp
    have hn : (validE d c m dr cr sy).isErr = false → (rwC c m c.length).length = c.length + (sitesM d c m dr cr sy).length := fun hv => by
      rw [rwC_cnt hv c.length (Nat.le_refl _)]
      unfold sitesM; rw [if_neg (by rw [hv]; simp), (valid_size hv).2.1]; rfl
    have hcases : ((validE d c m dr cr sy).isErr = true ∧ doE d c m dr cr sy = validE d c m dr cr sy) ∨ ((validE d c m dr cr sy).isErr = false ∧ doE d c m dr cr sy = .fine) := by
      cases hv : (validE d c m dr cr sy).isErr with
      | true => exact .inl ⟨rfl, by rw [doE, if_pos hv]⟩
      | false =>
        have := hn hv
        have := rwC_len c m c.length
        exact .inr ⟨rfl, by rw [doE, if_neg (by rw [hv]; simp), if_neg (by omega)]⟩
    have hlen : lenOb (ifOk (doE d c m dr cr sy) d) (doC (doE d c m dr cr sy) c m) (doM (doE d c m dr cr sy) c m) (ifOk (doE d c m dr cr sy) dr) (doR (doE d c m dr cr sy) c m cr) (doS (doE d c m dr cr sy) c m sy) ∧ (doT (doE d c m dr cr sy) c m).length ≤ 1000000 := by
      rcases hcases with ⟨hv, e⟩ | ⟨hv, e⟩
      · rw [e]
        simp [lenOb, doC, doM, doR, doS, doT, ifOk, hv]
      · obtain ⟨v1, v2, v3, v4, v5, v6, _⟩ := valid_size hv
        have hl := rwC_len c m c.length
        have ht := rwTo_len c m
        rw [e]
        simp [lenOb, doC, doM, doR, doS, doT, ifOk, FErr.isErr]
        omega
    rw [q1, hs]
    refine ⟨fun _ => hlen.1, fun _ => ⟨fun _ => hlen.2, fun _ => ⟨fun g => by simp at g, fun _ => ⟨fun g => ?_, fun g => ?_⟩⟩⟩⟩
    · rcases hcases with ⟨hv, e⟩ | ⟨hv, e⟩
      · rw [e, fc_full, hv]; simp
      · rw [e] at g; simp [codeN] at g
    · rcases hcases with ⟨hv, e⟩ | ⟨hv, e⟩
      · rw [e] at g
        have := (codeN_full d c m dr cr sy).1 (by simpa using g)
        rw [hv] at this; cases this
      · have e1 : doC (doE d c m dr cr sy) c m = rwC c m c.length := by rw [e]; rfl
        rw [e1, hv, hn hv]
        simp
  · cases hr
end
end Go.Proofs.YtbdfibaljoedpaaDoor

