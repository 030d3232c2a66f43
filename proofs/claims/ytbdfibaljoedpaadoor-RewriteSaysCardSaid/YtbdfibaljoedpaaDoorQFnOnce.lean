/- Contracts that the proofs use. -/
import Derived.Test.YtbdfibaljoedpaaDoorQFnLong
set_option linter.unusedVariables false
set_option linter.unusedSimpArgs false
namespace Go.Proofs.YtbdfibaljoedpaaDoor
open Go.RowKit Go.Sy Go.Fac
section
variable {ea : Int → Addr} {has : Int → Prop} {rest : List (Nat × SVal)}
def inS (c : List Int) (i : Nat) : In5 := ofF (c.getD i 0) (nextW c i)
def isS (c m : List Int) (i : Nat) : Bool := decide (m.getD i 0 = 1) && (decide (isaClass (inS c i).op = 2) || decide (isaClass (inS c i).op = 3))
def s9 (c m : List Int) : Nat → List St
  | 0 => []
  | i + 1 => if isS c m i = true then s9 c m i ++ [⟨(i : Int), isaClass (inS c i).op, inS c i⟩] else s9 c m i
theorem s9_len (c m : List Int) : ∀ i, (s9 c m i).length ≤ i
  | 0 => Nat.le_refl _
  | i + 1 => by
    have := s9_len c m i
    rw [s9]; split
    · rw [List.length_append]; simp only [List.length_singleton]; omega
    · omega
theorem isS_isF {d c m : List Int} {dr cr : List Rel} {sy : List Sm} (hv : (validE d c m dr cr sy).isErr = false) {i : Nat} (hi : i < c.length) : isS c m i = isF c m i := by
  unfold isS isF
  by_cases hm : m.getD i 0 = 1
  · obtain ⟨h, _⟩ := start_ok hv hi hm
    have : (inS c i).op = c.getD i 0 / 16777216 := by unfold inS ofF; rw [if_pos h]
    rw [this]
  · rw [decide_eq_false hm]; rfl
theorem s9_none (c m : List Int) : ∀ n, s9 c m n = [] → ∀ i, i < n → isS c m i = false
  | 0, _, i, h => by omega
  | n + 1, h, i, hi => by
    rw [s9] at h
    split at h
    · simp at h
    · rename_i g
      by_cases e : i < n
      · exact s9_none c m n h i e
      · have : i = n := by omega
        subst this
        simpa using g
theorem s9_some (c m : List Int) : ∀ n, s9 c m n ≠ [] → ∃ p, p < n ∧ isS c m p = true ∧ (∀ j, j < p → isS c m j = false) ∧ ((s9 c m n).getD 0 RT.site.dflt).at_ = (p : Int)
  | 0, h => (h rfl).elim
  | n + 1, h => by
    by_cases e : s9 c m n = []
    · have hn := s9_none c m n e
      rw [s9] at h ⊢
      split at h
      · rename_i g
        rw [if_pos g, e]
        exact ⟨n, by omega, g, hn, rfl⟩
      · exact (h e).elim
    · obtain ⟨p, a, b, d, f⟩ := s9_some c m n e
      refine ⟨p, by omega, b, d, ?_⟩
      rw [← f, s9]
      split
      · cases hs : s9 c m n with
        | nil => exact (e hs).elim
        | cons x l => rfl
      · rfl
theorem rw_same (c m : List Int) (hml : m.length = c.length) : ∀ p, p ≤ c.length → (∀ j, j < p → isF c m j = false) → rwC c m p = c.take p ∧ rwM c m p = m.take p
  | 0, _, _ => ⟨rfl, rfl⟩
  | p + 1, h, hf => by
    obtain ⟨a, b⟩ := rw_same c m hml p (by omega) fun j hj => hf j (by omega)
    have g : ¬ isF c m p = true := by rw [hf p (by omega)]; simp
    rw [rwC, rwM, if_neg g, if_neg g, a, b, take_get1 c 0 (by omega), take_get1 m 0 (by omega)]
    exact ⟨rfl, rfl⟩
theorem rwC_cnt {d c m : List Int} {dr cr : List Rel} {sy : List Sm} (hv : (validE d c m dr cr sy).isErr = false) : ∀ i, i ≤ c.length → (rwC c m i).length = i + ahead c m i
  | 0, _ => rfl
  | i + 1, h => by
    have a := rwC_cnt hv i (by omega)
    obtain ⟨f1, f2⟩ := finds hv (show i < c.length by omega)
    rw [rwC, List.length_append, a]
    cases hF : isF c m i with
    | true => rw [(f1 hF).2.2.2.2, if_pos rfl]; simp only [List.length_cons, List.length_nil]; omega
    | false => rw [(f2 hF).2, if_neg (by simp)]; simp only [List.length_cons, List.length_nil]; omega
theorem take_getD (l : List Int) {p j : Nat} (h : j < p) : (l.take p).getD j 0 = l.getD j 0 := by
  rw [List.getD_eq_getElem?_getD, List.getD_eq_getElem?_getD, List.getElem?_take, if_pos h]
theorem word_eq {c m C M : List Int} {p : Nat} (h1 : p < c.length) (h2 : p < C.length) (h3 : m.length = c.length) (h4 : M.length = C.length) (e1 : ∀ j, j < p → C.getD j 0 = c.getD j 0) (e2 : ∀ j, j ≤ p → M.getD j 0 = m.getD j 0)
    {i : Nat} (hi : i < p) : wordE C M i = wordE c m i := by
  have hb : ∀ j : Nat, j < p → begM C M j = begM c m j := fun j hj => by
    unfold begM
    rw [Int.toNat_natCast, e2 j (by omega), decide_eq_false (by omega : ¬ (C.length : Int) ≤ j), decide_eq_false (by omega : ¬ (c.length : Int) ≤ j), decide_eq_false (by omega : ¬ (M.length : Int) ≤ j), decide_eq_false (by omega : ¬ (m.length : Int) ≤ j)]
  have hB : ∀ j : Nat, j < p → insB C M j = insB c m j := fun j hj => by
    unfold insB; rw [hb j hj, Int.toNat_natCast, e1 j hj]
  have hO : ∀ j : Nat, j < p → (insI C M j).op = (insI c m j).op := fun j hj => by
    unfold insI; rw [hb j hj, Int.toNat_natCast, e1 j hj]
    split
    · unfold ofF; split <;> rfl
    · rfl
  have hT : (decide ((i : Int) = 0) || !twoB C M ((i : Int) - 1)) = (decide ((i : Int) = 0) || !twoB c m ((i : Int) - 1)) := by
    by_cases h0 : i = 0
    · subst h0; rfl
    · have : (i : Int) - 1 = ((i - 1 : Nat) : Int) := by omega
      unfold twoB
      rw [this, hB _ (by omega), hO _ (by omega)]
  have t1 : ((i : Int) + 1).toNat = i + 1 := by omega
  unfold wordE
  rw [Int.toNat_natCast, t1, e2 i (by omega), e2 (i + 1) (by omega), hB i hi, hO i hi, hT, decide_eq_false (by omega : ¬ (C.length : Int) ≤ (i : Int) + 1), decide_eq_false (by omega : ¬ (c.length : Int) ≤ (i : Int) + 1)]
theorem once_none {d c m : List Int} {dr cr : List Rel} {sy : List Sm} (hv : (validE d c m dr cr sy).isErr = false) (hf : ∀ j, j < c.length → isF c m j = false) :
    rwC c m c.length = c ∧ rwM c m c.length = m ∧ cr.map (relTo (rwTo c m)) = cr ∧ sy.map (symTo (rwTo c m)) = sy := by
  obtain ⟨v1, v2, _⟩ := valid_size hv
  obtain ⟨a, b⟩ := rw_same c m v2 c.length (Nat.le_refl _) hf
  have hT : ∀ x : Int, 0 ≤ x → x < c.length → placeI (rwTo c m) x = x := fun x h1 h2 => by
    obtain ⟨n, rfl⟩ := Int.eq_ofNat_of_zero_le h1
    unfold placeI rwTo
    rw [Int.toNat_natCast, rwT_get c m _ (by omega), (rw_same c m v2 n (by omega) fun j hj => hf j (by omega)).1, List.length_take]
    omega
  refine ⟨by rw [a, List.take_length], by rw [b, ← v2, List.take_length], ?_, ?_⟩
  · refine List.ext_getElem (by simp) fun i h1 h2 => ?_
    have := valid_cr hv h2
    rw [List.getD_eq_getElem?_getD, List.getElem?_eq_getElem h2, Option.getD_some] at this
    rw [List.getElem_map]
    unfold relTo
    rw [hT _ this.1 this.2]
  · refine List.ext_getElem (by simp) fun i h1 h2 => ?_
    have := fun h => valid_code hv h2 h
    rw [List.getD_eq_getElem?_getD, List.getElem?_eq_getElem h2, Option.getD_some] at this
    rw [List.getElem_map]
    unfold symTo
    split
    · rename_i g
      rw [hT _ (this g).1 (this g).2]
    · rfl
theorem once_some {d c m : List Int} {dr cr : List Rel} {sy : List Sm} (hv : (validE d c m dr cr sy).isErr = false) (hs : c.length + (sitesM d c m dr cr sy).length ≤ 2048) {p : Nat} (hp : p < c.length) (hF : isF c m p = true) (hf : ∀ j, j < p → isF c m j = false)
    (cr2 : List Rel) (sy2 : List Sm) (h1 : cr2.length = cr.length) (h2 : sy2.length = sy.length) :
    validE d (rwC c m c.length) (rwM c m c.length) dr cr2 sy2 = placeE (.bare 105) p := by
  obtain ⟨v1, v2, v3, v4, v5, v6, v7, _⟩ := valid_size hv
  have hn := rwC_cnt hv c.length (Nat.le_refl _)
  have hM := (rwC_len c m c.length).2
  have ha : (sitesM d c m dr cr sy).length = ahead c m c.length := by
    unfold sitesM; rw [if_neg (by rw [hv]; simp), v2]; rfl
  obtain ⟨a, b⟩ := rw_same c m v2 p (by omega) hf
  obtain ⟨X, Y, hX, hY⟩ := rwC_pre c m (p + 1) (c.length - (p + 1))
  rw [show p + 1 + (c.length - (p + 1)) = c.length by omega] at hX hY
  rw [rwC, if_pos hF, a] at hX
  rw [rwM, if_pos hF, b] at hY
  have lp : (c.take p).length = p := by rw [List.length_take]; omega
  have lq : (m.take p).length = p := by rw [List.length_take]; omega
  have g0 := get_mid (c.take p) [hcW, markW (c.getD p 0)] X 0 0 (by simp)
  have k0 := get_mid (m.take p) [1, 0] Y 0 0 (by simp)
  rw [← hX, lp] at g0
  rw [← hY, lq] at k0
  have mp : m.getD p 0 = 1 := by unfold isF at hF; rw [Bool.and_eq_true] at hF; exact of_decide_eq_true hF.1
  have e1 : ∀ j, j < p → (rwC c m c.length).getD j 0 = c.getD j 0 := fun j hj => by
    rw [hX, List.append_assoc, List.getD_eq_getElem?_getD, List.getElem?_append_left (by omega), ← List.getD_eq_getElem?_getD, take_getD c hj]
  have e2 : ∀ j, j ≤ p → (rwM c m c.length).getD j 0 = m.getD j 0 := fun j hj => by
    by_cases h : j = p
    · subst h; rw [mp]; exact k0
    · rw [hY, List.append_assoc, List.getD_eq_getElem?_getD, List.getElem?_append_left (by omega), ← List.getD_eq_getElem?_getD, take_getD m (by omega)]
  have hl : p < (rwC c m c.length).length := by omega
  generalize rwC c m c.length = C at *
  generalize rwM c m c.length = M at *
  have w1 : firstE (wdE C M) p = .fine := firstE_of p fun i hi => by
    unfold wdE
    rw [word_eq hp hl v2 hM e1 e2 hi]
    exact firstE_all (fun i => wordE_np c m i) v7 i (by omega)
  have w2 : wdE C M p = .bare 105 := by
    have hb : begM C M p = true := by
      unfold begM
      rw [Int.toNat_natCast, e2 p (Nat.le_refl _), mp, decide_eq_false (by omega : ¬ (p : Int) < 0), decide_eq_false (by omega : ¬ (C.length : Int) ≤ p), decide_eq_false (by omega : ¬ (M.length : Int) ≤ p)]
      rfl
    have hk : ofOk hcW = true := by decide +kernel
    have hop : (insI C M p).op = 96 := by
      unfold insI
      rw [hb, if_pos rfl, Int.toNat_natCast]
      have : C.getD p 0 = hcW := g0
      rw [this]
      unfold ofF
      rw [if_pos hk]
      show hcW / 16777216 = 96
      decide +kernel
    unfold wdE wordE
    rw [Int.toNat_natCast, e2 p (Nat.le_refl _), mp, if_pos rfl, hop]
    rw [if_pos (by rw [show decide (isaClass 96 = 4) = true by decide]; simp)]
  have w3 := firstE_at w1 (by rw [w2]; rfl) (by rw [w2]; rfl) hl
  rw [w2] at w3
  have m1 : manyB d C dr cr2 sy2 = false := by
    unfold manyB
    simp only [Bool.or_eq_false_iff, decide_eq_false_iff_not]
    omega
  unfold validE
  rw [m1, if_neg (by simp), if_neg (by rw [decide_eq_true (by omega)]; simp), if_pos w3.2, w3.1]
def kSecond : List SVal → Nat → Acc ORes := fun a n => match a with | [.agg [.ro .u32 d, .ro .u32 c, .ro .u8 m, .ro .rel dr, .ro .rel cr, .ro .sym sy], .int .i64 i] => .ret ({ v := .int .u32 (.full (nextW c i.val)), vc := some (0 ≤ i.val ∧ i.val < (c.length : Int) ∧ c.length ≤ 1000000) }) | _ => .fail "Second"
theorem argSecond (d c m : List Int) (dr cr : List Rel) (sy : List Sm) (i : SI) : (all (subL 134 none' [] deep [.agg [.ro .u32 d, .ro .u32 c, .ro .u8 m, .ro .rel dr, .ro .rel cr, .ro .sym sy], .int .i64 i] [.agg [.ro .u32 d, .ro .u32 c, .ro .u8 m, .ro .rel dr, .ro .rel cr, .ro .sym sy], .int .i64 (.full i.val)])) = (
  d = d ∧ c = c ∧ m = m ∧ dr = dr ∧ cr = cr ∧ sy = sy ∧ SI.val i = SI.val i) := by kernel_rfl
theorem runSecond (rest : List (Nat × SVal)) (d c m : List Int) (dr cr : List Rel) (sy : List Sm) (i : SI) : (Tr.sat (plainQ (.int .u32 (.full (nextW c i.val)))) (run (env (G7 ++ (G9 ++ rest)) []) [] (bodyOf Tryd.f81) (start [.agg [.ro .u32 d, .ro .u32 c, .ro .u8 m, .ro .rel dr, .ro .rel cr, .ro .sym sy], .int .i64 (.full i.val)] 17) (ends (env (G7 ++ (G9 ++ rest)) []) Tryd.f81.results.toList))) = (
  (decide (IntKind.wrap IntKind.i64 (SI.val i + (1 : Int)) < (↑(List.length c) : Int)) = true → ((0 : Int) ≤ IntKind.wrap IntKind.i64 (SI.val i + (1 : Int)) ∧ IntKind.wrap IntKind.i64 (SI.val i + (1 : Int)) < (↑(List.length c) : Int)) ∧ ((0 : Int) ≤ IntKind.wrap IntKind.i64 (SI.val i + (1 : Int)) ∧ IntKind.wrap IntKind.i64 (SI.val i + (1 : Int)) < (↑(List.length c) : Int) → List.getD c (Int.toNat (IntKind.wrap IntKind.i64 (SI.val i + (1 : Int)))) (RT.dflt RT.u32) = nextW c (SI.val i))) ∧ (decide (IntKind.wrap IntKind.i64 (SI.val i + (1 : Int)) < (↑(List.length c) : Int)) = false → (0 : Int) = nextW c (SI.val i))) := by kernel_rfl
set_option maxHeartbeats 4000000 in
theorem cSecond : Con ea has (G7 ++ (G9 ++ rest)) 81 kSecond := by
  refine plain_mk Tryd.func81 17 (con := []) trivial (fun hA hr hv => ?_) (by kernel_rfl) (by kernel_rfl) Tryd.ntmps81
  unfold kSecond at hr; split at hr
  · rename_i d c m dr cr sy i
    have := ret_ok hr; subst this
    replace hv := hv _ rfl
    refine ⟨_, [], rfl, rfl, (argSecond d c m dr cr sy i).mpr (by simp), rfl, (fun W R ρ0 own0 hown => noLoops (by kernel_rfl)), (runSecond rest d c m dr cr sy i).mpr ?_⟩
    clear hr
    obtain ⟨q1, q2, q3⟩ := hv
    have w : IntKind.i64.wrap (i.val + 1) = i.val + 1 := by rw [IntKind.wrap_i64]; omega
    rw [w]
    unfold nextW
    refine ⟨fun h => ⟨by have := of_decide_eq_true h; omega, fun _ => ?_⟩, fun h => ?_⟩
    · rw [if_pos (of_decide_eq_true h)]; rfl
    · rw [if_neg (of_decide_eq_false h)]
  · cases hr
def HSites9 (d c m : List Int) (dr cr : List Rel) (sy : List Sm) (i : Nat) : SState := { fr := [(1, .ptr 0 0), (3, .own 1), (4, .int .i64 (.sym i 0 1000000))], hp := [(0, obBox d c m dr cr sy), (1, some (.recs .site (s9 c m i)))], next := 2, sz := 52 }
def XSites9 (d c m : List Int) (dr cr : List Rel) (sy : List Sm) : SState := { fr := [(3, .own 1)], hp := [(1, some (.recs .site (s9 c m c.length)))], next := 2, sz := 52 }
def LSites9 (d c m : List Int) (dr cr : List Rel) (sy : List Sm) : LSum := ⟨HSites9 d c m dr cr sy 0, fun k => k (.exit 0) (XSites9 d c m dr cr sy), c.length ≤ 1000000 ∧ m.length = c.length⟩
theorem bSites9 (rest : List (Nat × SVal)) (d c m : List Int) (dr cr : List Rel) (sy : List Sm) (i : Nat) : (Tr.sat (rnd1 (env (G7 ++ (G9 ++ rest)) [(81, kSecond), (80, krOf), (19, krClass)]) (fun _ => True) (c.length) (HSites9 d c m dr cr sy) 0 (XSites9 d c m dr cr sy) i) (run (env (G7 ++ (G9 ++ rest)) [(81, kSecond), (80, krOf), (19, krClass)]) [] (loopN (bodyOf Tryd.f41) 0) (HSites9 d c m dr cr sy i) .leaf)) = (
  (decide ((↑i : Int) < (↑(List.length c) : Int)) = true → ((0 : Int) ≤ (↑i : Int) ∧ (↑i : Int) < (↑(List.length c) : Int)) ∧ ((0 : Int) ≤ (↑i : Int) ∧ (↑i : Int) < (↑(List.length c) : Int) → ((0 : Int) ≤ (↑i : Int) ∧ (↑i : Int) < (↑(List.length c) : Int) ∧ List.length c ≤ (1000000 : Nat)) ∧ ((0 : Int) ≤ (↑i : Int) ∧ (↑i : Int) < (↑(List.length c) : Int) ∧ List.length c ≤ (1000000 : Nat) → ((0 : Int) ≤ (↑i : Int) ∧ (↑i : Int) < (↑(List.length m) : Int)) ∧ ((0 : Int) ≤ (↑i : Int) ∧ (↑i : Int) < (↑(List.length m) : Int) → ((decide (List.getD m (Int.toNat (↑i : Int)) (RT.dflt RT.u8) = (1 : Int)) && (decide (isaClass (ofF (List.getD c (Int.toNat (↑i : Int)) (RT.dflt RT.u32)) (nextW c (↑i : Int))).op = (2 : Int)) || decide (isaClass (ofF (List.getD c (Int.toNat (↑i : Int)) (RT.dflt RT.u32)) (nextW c (↑i : Int))).op = (3 : Int)))) = true → List.length (s9 c m i) + List.length [St.mk (↑i : Int) (isaClass (ofF (List.getD c (Int.toNat (↑i : Int)) (RT.dflt RT.u32)) (nextW c (↑i : Int))).op) (In5.mk (ofF (List.getD c (Int.toNat (↑i : Int)) (RT.dflt RT.u32)) (nextW c (↑i : Int))).op (ofF (List.getD c (Int.toNat (↑i : Int)) (RT.dflt RT.u32)) (nextW c (↑i : Int))).a (ofF (List.getD c (Int.toNat (↑i : Int)) (RT.dflt RT.u32)) (nextW c (↑i : Int))).b (ofF (List.getD c (Int.toNat (↑i : Int)) (RT.dflt RT.u32)) (nextW c (↑i : Int))).c (ofF (List.getD c (Int.toNat (↑i : Int)) (RT.dflt RT.u32)) (nextW c (↑i : Int))).imm)] ≤ (137438953472 : Nat) ∧ (List.length (s9 c m i) + List.length [St.mk (↑i : Int) (isaClass (ofF (List.getD c (Int.toNat (↑i : Int)) (RT.dflt RT.u32)) (nextW c (↑i : Int))).op) (In5.mk (ofF (List.getD c (Int.toNat (↑i : Int)) (RT.dflt RT.u32)) (nextW c (↑i : Int))).op (ofF (List.getD c (Int.toNat (↑i : Int)) (RT.dflt RT.u32)) (nextW c (↑i : Int))).a (ofF (List.getD c (Int.toNat (↑i : Int)) (RT.dflt RT.u32)) (nextW c (↑i : Int))).b (ofF (List.getD c (Int.toNat (↑i : Int)) (RT.dflt RT.u32)) (nextW c (↑i : Int))).c (ofF (List.getD c (Int.toNat (↑i : Int)) (RT.dflt RT.u32)) (nextW c (↑i : Int))).imm)] ≤ (137438953472 : Nat) → i < List.length c ∧ True ∧ (↑i : Int) + (1 : Int) = (↑(i + (1 : Nat)) : Int) ∧ ((0 : Int) ≤ (↑(i + (1 : Nat)) : Int) ∧ (↑(i + (1 : Nat)) : Int) ≤ (1000000 : Int)) ∧ d = d ∧ c = c ∧ m = m ∧ dr = dr ∧ cr = cr ∧ sy = sy ∧ s9 c m i ++ [St.mk (↑i : Int) (isaClass (ofF (List.getD c (Int.toNat (↑i : Int)) (RT.dflt RT.u32)) (nextW c (↑i : Int))).op) (In5.mk (ofF (List.getD c (Int.toNat (↑i : Int)) (RT.dflt RT.u32)) (nextW c (↑i : Int))).op (ofF (List.getD c (Int.toNat (↑i : Int)) (RT.dflt RT.u32)) (nextW c (↑i : Int))).a (ofF (List.getD c (Int.toNat (↑i : Int)) (RT.dflt RT.u32)) (nextW c (↑i : Int))).b (ofF (List.getD c (Int.toNat (↑i : Int)) (RT.dflt RT.u32)) (nextW c (↑i : Int))).c (ofF (List.getD c (Int.toNat (↑i : Int)) (RT.dflt RT.u32)) (nextW c (↑i : Int))).imm)] = s9 c m (i + (1 : Nat)))) ∧ ((decide (List.getD m (Int.toNat (↑i : Int)) (RT.dflt RT.u8) = (1 : Int)) && (decide (isaClass (ofF (List.getD c (Int.toNat (↑i : Int)) (RT.dflt RT.u32)) (nextW c (↑i : Int))).op = (2 : Int)) || decide (isaClass (ofF (List.getD c (Int.toNat (↑i : Int)) (RT.dflt RT.u32)) (nextW c (↑i : Int))).op = (3 : Int)))) = false → i < List.length c ∧ True ∧ (↑i : Int) + (1 : Int) = (↑(i + (1 : Nat)) : Int) ∧ ((0 : Int) ≤ (↑(i + (1 : Nat)) : Int) ∧ (↑(i + (1 : Nat)) : Int) ≤ (1000000 : Int)) ∧ d = d ∧ c = c ∧ m = m ∧ dr = dr ∧ cr = cr ∧ sy = sy ∧ s9 c m i = s9 c m (i + (1 : Nat))))))) ∧ (decide ((↑i : Int) < (↑(List.length c) : Int)) = false → Nat.beq (0 : Nat) (0 : Nat) = true ∧ s9 c m i = s9 c m (List.length c))) := by kernel_rfl
set_option maxHeartbeats 4000000 in
theorem lSites9 (d c m : List Int) (dr cr : List Rel) (sy : List Sm) {W : World} {R own0 : Nat → Prop} {ρ0 : Nat → Option Value} (hown : HownOk (env (G7 ++ (G9 ++ rest)) [(81, kSecond), (80, krOf), (19, krClass)]) own0 ρ0) : LOk Tryd.prog (env (G7 ++ (G9 ++ rest)) [(81, kSecond), (80, krOf), (19, krClass)]) (ctx ea has) (G7 ++ (G9 ++ rest)) W R own0 ρ0 (loopN (bodyOf Tryd.f41) 0) (LSites9 d c m dr cr sy) := by
  refine loop1_ok (env_ok (con := [(81, kSecond), (80, krOf), (19, krClass)]) ⟨cSecond, crOf, crClass, trivial⟩) hown (ls := fun i => []) (fun i => noLoops (by kernel_rfl)) (fun hm i hi hj => (bSites9 rest d c m dr cr sy i).mpr ?_) 0 (fun hm => by first | exact Nat.zero_le _ | omega) (fun hm => trivial)
  obtain ⟨z1, z2⟩ := hm
  have hl := s9_len c m i
  refine ⟨fun h => ?_, fun h => ?_⟩
  · have h := of_decide_eq_true h
    have hlt : i < c.length := by omega
    refine ⟨by omega, fun _ => ⟨by omega, fun _ => ⟨by omega, fun _ => ⟨fun h2 => ⟨by simp only [List.length_singleton]; omega, fun _ => ?_⟩, fun h2 => ?_⟩⟩⟩⟩
    · have h3 : isS c m i = true := h2
      refine ⟨hlt, trivial, by omega, by omega, rfl, rfl, rfl, rfl, rfl, rfl, ?_⟩
      rw [s9, if_pos h3]; rfl
    · have h3 : isS c m i = false := h2
      refine ⟨hlt, trivial, by omega, by omega, rfl, rfl, rfl, rfl, rfl, rfl, ?_⟩
      rw [s9, if_neg (by rw [h3]; simp)]
  · have h := of_decide_eq_false h
    have e : i = c.length := by omega
    subst e
    exact ⟨rfl, rfl⟩
def kSites9 : List SVal → Nat → Acc ORes := fun a n => match a with | [.agg [.ro .u32 d, .ro .u32 c, .ro .u8 m, .ro .rel dr, .ro .rel cr, .ro .sym sy]] => .ret ({ v := .ro .site (s9 c m c.length), vc := some (c.length ≤ 1000000 ∧ m.length = c.length) }) | _ => .fail "Sites9"
theorem argSites9 (d c m : List Int) (dr cr : List Rel) (sy : List Sm) : (all (subL 134 none' [] deep [.agg [.ro .u32 d, .ro .u32 c, .ro .u8 m, .ro .rel dr, .ro .rel cr, .ro .sym sy]] [.agg [.ro .u32 d, .ro .u32 c, .ro .u8 m, .ro .rel dr, .ro .rel cr, .ro .sym sy]])) = (
  d = d ∧ c = c ∧ m = m ∧ dr = dr ∧ cr = cr ∧ sy = sy) := by kernel_rfl
theorem runSites9 (rest : List (Nat × SVal)) (d c m : List Int) (dr cr : List Rel) (sy : List Sm) : (Tr.sat (plainQ (.ro .site (s9 c m c.length))) (run (env (G7 ++ (G9 ++ rest)) [(81, kSecond), (80, krOf), (19, krClass)]) [(3, LSites9 d c m dr cr sy)] (bodyOf Tryd.f41) (start [.agg [.ro .u32 d, .ro .u32 c, .ro .u8 m, .ro .rel dr, .ro .rel cr, .ro .sym sy]] 52) (ends (env (G7 ++ (G9 ++ rest)) [(81, kSecond), (80, krOf), (19, krClass)]) Tryd.f41.results.toList))) = (
  ((List.length c ≤ (1000000 : Nat) ∧ List.length m = List.length c) ∧ (0 : Int) = (↑(0 : Nat) : Int) ∧ d = d ∧ c = c ∧ m = m ∧ dr = dr ∧ cr = cr ∧ sy = sy ∧ @List.nil (RT.ty RT.site) = s9 c m (0 : Nat)) ∧ ((List.length c ≤ (1000000 : Nat) ∧ List.length m = List.length c) ∧ (0 : Int) = (↑(0 : Nat) : Int) ∧ d = d ∧ c = c ∧ m = m ∧ dr = dr ∧ cr = cr ∧ sy = sy ∧ @List.nil (RT.ty RT.site) = s9 c m (0 : Nat) → s9 c m (List.length c) = s9 c m (List.length c))) := by kernel_rfl
set_option maxHeartbeats 4000000 in
theorem cSites9 : Con ea has (G7 ++ (G9 ++ rest)) 41 kSites9 := by
  refine plain_mk Tryd.func41 52 (con := [(81, kSecond), (80, krOf), (19, krClass)]) ⟨cSecond, crOf, crClass, trivial⟩ (fun hA hr hv => ?_) (by kernel_rfl) (by kernel_rfl) Tryd.ntmps41
  unfold kSites9 at hr; split at hr
  · rename_i d c m dr cr sy
    have := ret_ok hr; subst this
    replace hv := hv _ rfl
    refine ⟨_, [(3, LSites9 d c m dr cr sy)], rfl, rfl, (argSites9 d c m dr cr sy).mpr (by simp), rfl, (fun W R ρ0 own0 hown => hl1 (by kernel_rfl) (by kernel_rfl) (lSites9 d c m dr cr sy hown)), (runSites9 rest d c m dr cr sy).mpr ?_⟩
    clear hr
    exact ⟨⟨hv, rfl, rfl, rfl, rfl, rfl, rfl, rfl, rfl⟩, fun _ => rfl⟩
  · cases hr
end
end Go.Proofs.YtbdfibaljoedpaaDoor

