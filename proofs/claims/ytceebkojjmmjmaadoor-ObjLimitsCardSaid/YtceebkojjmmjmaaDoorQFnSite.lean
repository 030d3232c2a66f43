/- Contracts that the proofs use. -/
import Derived.Test.YtceebkojjmmjmaaDoorQFnVal
set_option linter.unusedVariables false
set_option linter.unusedSimpArgs false
namespace Go.Proofs.YtceebkojjmmjmaaDoor
open Go.RowKit Go.Sy Go.Fac
section
variable {ea : Ear} {has : Int → Prop} {rest : List (Nat × SVal)}
def siteOf (c m : List Int) (at_ : Int) : List St :=
  let i := insI c m at_
  if (decide (isaClass i.op = 2) || decide (isaClass i.op = 3)) = true then [⟨at_, isaClass i.op, i⟩] else []
def sitesF (c m : List Int) (l : List Int) : List St := l.flatMap (siteOf c m)
def sitesM (d c m : List Int) (dr cr : List Rel) (sy : List Sm) : List St := if (validE d c m dr cr sy).isErr = true then [] else sitesF c m (startsF c m m.length)
theorem valid_size {d c m : List Int} {dr cr : List Rel} {sy : List Sm} (h : (validE d c m dr cr sy).isErr = false) : c.length ≤ 2048 ∧ m.length = c.length ∧ d.length ≤ 2048 ∧ dr.length ≤ 1024 ∧ cr.length ≤ 1024 ∧ sy.length ≤ 256 ∧
    (firstE (wdE c m) c.length).isErr = false ∧ (firstE (syE d c m sy) sy.length).isErr = false ∧ (relocsE d c m dr cr sy).isErr = false := by
  unfold validE at h
  split at h
  · cases h
  · rename_i h1
    split at h
    · cases h
    · rename_i h2
      split at h
      · rename_i h3; rw [h] at h3; cases h3
      · rename_i h3
        split at h
        · rename_i h4; rw [h] at h4; cases h4
        · rename_i h4
          have h1 : manyB d c dr cr sy = false := by simpa using h1
          unfold manyB at h1
          simp only [Bool.or_eq_false_iff, decide_eq_false_iff_not] at h1
          simp only [Bool.not_eq_true', decide_eq_false_iff_not, Decidable.not_not] at h2
          refine ⟨by omega, by omega, by omega, by omega, by omega, by omega, by simpa using h3, by simpa using h4, h⟩
theorem firstE_all {f : Nat → FErr} (hp : ∀ i, (f i).isPlaced = false) {n : Nat} (h : (firstE f n).isErr = false) : ∀ i, i < n → (f i).isErr = false := by
  intro i hi
  cases hf : (f i).isErr with
  | false => rfl
  | true =>
    cases hi1 : (firstE f i).isErr with
    | true =>
      have := firstE_stay hi1 (Nat.le_of_lt hi)
      rw [this, hi1] at h; cases h
    | false =>
      have := (firstE_at (fine_of hi1) hf (hp i) hi).2
      rw [this] at h; cases h
theorem sitesF_len (c m : List Int) : ∀ l, (sitesF c m l).length ≤ l.length
  | [] => Nat.le_refl _
  | a :: l => by
    have := sitesF_len c m l
    unfold sitesF at *
    rw [List.flatMap_cons, List.length_append]
    have : (siteOf c m a).length ≤ 1 := by unfold siteOf; simp only; split <;> simp
    simp only [List.length_cons]; omega
def HSites (d c m : List Int) (dr cr : List Rel) (sy : List Sm) (st : List Int) (i : Nat) : SState := { fr := [(1, .ptr 0 0), (5, .own 1), (17, .own 2), (18, .int .i64 (.full st.length)), (19, .int .i64 (.sym i 0 1000000))], hp := [(0, some (.cells [.ro .u32 d, .ro .u32 c, .ro .u8 m, .ro .rel dr, .ro .rel cr, .ro .sym sy])), (1, some (.recs .site (sitesF c m (st.take i)))), (2, some (.recs .i64 st))], next := 3, sz := 48 }
def XSites (d c m : List Int) (dr cr : List Rel) (sy : List Sm) (st : List Int) : SState := { fr := [(5, .own 0)], hp := [(0, some (.recs .site (sitesF c m st)))], next := 1, sz := 48 }
def LSites (d c m : List Int) (dr cr : List Rel) (sy : List Sm) (st : List Int) : LSum := ⟨HSites d c m dr cr sy st 0, fun k => k (.exit 0) (XSites d c m dr cr sy st), st.length ≤ 1000000⟩
theorem bSites (rest : List (Nat × SVal)) (d c m : List Int) (dr cr : List Rel) (sy : List Sm) (st : List Int) (i : Nat) : (Tr.sat (rnd1 (env (G7 ++ rest) [(31, kValid), (49, kStarts), (82, kInstr), (17, kTables), (18, kClass)]) (fun _ => True) (st.length) (HSites d c m dr cr sy st) 0 (XSites d c m dr cr sy st) i) (run (env (G7 ++ rest) [(31, kValid), (49, kStarts), (82, kInstr), (17, kTables), (18, kClass)]) [] (loopN (bodyOf Tryd.f43) 0) (HSites d c m dr cr sy st i) .leaf)) = (
  (decide ((↑i : Int) < (↑(List.length st) : Int)) = true → ((0 : Int) ≤ (↑i : Int) ∧ (↑i : Int) < (↑(List.length st) : Int)) ∧ ((0 : Int) ≤ (↑i : Int) ∧ (↑i : Int) < (↑(List.length st) : Int) → ((decide (isaClass (insI c m (List.getD st (Int.toNat (↑i : Int)) (RT.dflt RT.i64))).op = (2 : Int)) || decide (isaClass (insI c m (List.getD st (Int.toNat (↑i : Int)) (RT.dflt RT.i64))).op = (3 : Int))) = true → List.length (sitesF c m (List.take i st)) + List.length [St.mk (List.getD st (Int.toNat (↑i : Int)) (RT.dflt RT.i64)) (isaClass (insI c m (List.getD st (Int.toNat (↑i : Int)) (RT.dflt RT.i64))).op) (In5.mk (insI c m (List.getD st (Int.toNat (↑i : Int)) (RT.dflt RT.i64))).op (insI c m (List.getD st (Int.toNat (↑i : Int)) (RT.dflt RT.i64))).a (insI c m (List.getD st (Int.toNat (↑i : Int)) (RT.dflt RT.i64))).b (insI c m (List.getD st (Int.toNat (↑i : Int)) (RT.dflt RT.i64))).c (insI c m (List.getD st (Int.toNat (↑i : Int)) (RT.dflt RT.i64))).imm)] ≤ (137438953472 : Nat) ∧ (List.length (sitesF c m (List.take i st)) + List.length [St.mk (List.getD st (Int.toNat (↑i : Int)) (RT.dflt RT.i64)) (isaClass (insI c m (List.getD st (Int.toNat (↑i : Int)) (RT.dflt RT.i64))).op) (In5.mk (insI c m (List.getD st (Int.toNat (↑i : Int)) (RT.dflt RT.i64))).op (insI c m (List.getD st (Int.toNat (↑i : Int)) (RT.dflt RT.i64))).a (insI c m (List.getD st (Int.toNat (↑i : Int)) (RT.dflt RT.i64))).b (insI c m (List.getD st (Int.toNat (↑i : Int)) (RT.dflt RT.i64))).c (insI c m (List.getD st (Int.toNat (↑i : Int)) (RT.dflt RT.i64))).imm)] ≤ (137438953472 : Nat) → i < List.length st ∧ True ∧ (↑(List.length st) : Int) = (↑(List.length st) : Int) ∧ (↑i : Int) + (1 : Int) = (↑(i + (1 : Nat)) : Int) ∧ ((0 : Int) ≤ (↑(i + (1 : Nat)) : Int) ∧ (↑(i + (1 : Nat)) : Int) ≤ (1000000 : Int)) ∧ d = d ∧ c = c ∧ m = m ∧ dr = dr ∧ cr = cr ∧ sy = sy ∧ sitesF c m (List.take i st) ++ [St.mk (List.getD st (Int.toNat (↑i : Int)) (RT.dflt RT.i64)) (isaClass (insI c m (List.getD st (Int.toNat (↑i : Int)) (RT.dflt RT.i64))).op) (In5.mk (insI c m (List.getD st (Int.toNat (↑i : Int)) (RT.dflt RT.i64))).op (insI c m (List.getD st (Int.toNat (↑i : Int)) (RT.dflt RT.i64))).a (insI c m (List.getD st (Int.toNat (↑i : Int)) (RT.dflt RT.i64))).b (insI c m (List.getD st (Int.toNat (↑i : Int)) (RT.dflt RT.i64))).c (insI c m (List.getD st (Int.toNat (↑i : Int)) (RT.dflt RT.i64))).imm)] = sitesF c m (List.take (i + (1 : Nat)) st) ∧ st = st)) ∧ ((decide (isaClass (insI c m (List.getD st (Int.toNat (↑i : Int)) (RT.dflt RT.i64))).op = (2 : Int)) || decide (isaClass (insI c m (List.getD st (Int.toNat (↑i : Int)) (RT.dflt RT.i64))).op = (3 : Int))) = false → i < List.length st ∧ True ∧ (↑(List.length st) : Int) = (↑(List.length st) : Int) ∧ (↑i : Int) + (1 : Int) = (↑(i + (1 : Nat)) : Int) ∧ ((0 : Int) ≤ (↑(i + (1 : Nat)) : Int) ∧ (↑(i + (1 : Nat)) : Int) ≤ (1000000 : Int)) ∧ d = d ∧ c = c ∧ m = m ∧ dr = dr ∧ cr = cr ∧ sy = sy ∧ sitesF c m (List.take i st) = sitesF c m (List.take (i + (1 : Nat)) st) ∧ st = st))) ∧ (decide ((↑i : Int) < (↑(List.length st) : Int)) = false → Nat.beq (0 : Nat) (0 : Nat) = true ∧ sitesF c m (List.take i st) = sitesF c m st)) := by kernel_rfl
set_option maxHeartbeats 4000000 in
theorem lSites (d c m : List Int) (dr cr : List Rel) (sy : List Sm) (st : List Int) {W : World} {R own0 : Nat → Prop} {ρ0 : Nat → Option Value} (hown : HownOk (env (G7 ++ rest) [(31, kValid), (49, kStarts), (82, kInstr), (17, kTables), (18, kClass)]) own0 ρ0) : LOk Tryd.prog (env (G7 ++ rest) [(31, kValid), (49, kStarts), (82, kInstr), (17, kTables), (18, kClass)]) (ctx ea has) (G7 ++ rest) W R own0 ρ0 (loopN (bodyOf Tryd.f43) 0) (LSites d c m dr cr sy st) := by
  refine loop1_ok (env_ok (con := [(31, kValid), (49, kStarts), (82, kInstr), (17, kTables), (18, kClass)]) ⟨cValid, cStarts, cInstr, cTables, cClass, trivial⟩) hown (ls := fun i => []) (fun i => noSums (by kernel_rfl)) (fun hm i hi hj => (bSites rest d c m dr cr sy st i).mpr ?_) 0 (fun hm => by first | exact Nat.zero_le _ | omega) (fun hm => trivial)
  have d0 : RT.i64.dflt = (0 : Int) := rfl
  have hl := sitesF_len c m (st.take i)
  have hl2 : (st.take i).length ≤ i := by simp; omega
  simp only [d0, Int.toNat_natCast, List.length_singleton]
  refine ⟨fun h => ?_, fun h => ?_⟩
  · have h := of_decide_eq_true h
    have hlt : i < st.length := by omega
    have e : sitesF c m (st.take (i + 1)) = sitesF c m (st.take i) ++ siteOf c m (st.getD i 0) := by
      rw [List.take_add_one, List.getElem?_eq_getElem hlt]
      simp only [sitesF, List.flatMap_append, Option.toList_some, List.flatMap_cons, List.flatMap_nil, List.append_nil, List.getD_eq_getElem?_getD, List.getElem?_eq_getElem hlt, Option.getD_some]
    refine ⟨by omega, fun _ => ⟨fun h2 => ⟨by omega, fun _ => ?_⟩, fun h2 => ?_⟩⟩
    · have e2 : siteOf c m (st.getD i 0) = [⟨st.getD i 0, isaClass (insI c m (st.getD i 0)).op, insI c m (st.getD i 0)⟩] := by rw [siteOf]; simp only [h2, if_true]
      rw [e, e2]
      refine ⟨hlt, trivial, ?_⟩
      simp; omega
    · have e2 : siteOf c m (st.getD i 0) = [] := by rw [siteOf]; simp only [h2, Bool.false_eq_true, if_false]
      rw [e, e2]
      refine ⟨hlt, trivial, ?_⟩
      simp; omega
  · have h := of_decide_eq_false h
    exact ⟨rfl, by rw [List.take_of_length_le (by omega)]⟩
def kSites : List SVal → Nat → Acc ORes := fun a n => match a with | [.agg [.ro .u32 d, .ro .u32 c, .ro .u8 m, .ro .rel dr, .ro .rel cr, .ro .sym sy]] => .ret ({ v := .tuple [.ro .site (sitesM d c m dr cr sy), .err (validE d c m dr cr sy)] }) | _ => .fail "Sites"
theorem argSites (d c m : List Int) (dr cr : List Rel) (sy : List Sm) : (all (subL tAtN none' [] deep [.agg [.ro .u32 d, .ro .u32 c, .ro .u8 m, .ro .rel dr, .ro .rel cr, .ro .sym sy]] [.agg [.ro .u32 d, .ro .u32 c, .ro .u8 m, .ro .rel dr, .ro .rel cr, .ro .sym sy]])) = (
  d = d ∧ c = c ∧ m = m ∧ dr = dr ∧ cr = cr ∧ sy = sy) := by kernel_rfl
theorem runSites (rest : List (Nat × SVal)) (d : List Int) (c : List Int) (m : List Int) (dr : List Rel) (cr : List Rel) (sy : List Sm) : (Tr.sat (plainQ (.tuple [.ro .site (sitesM d c m dr cr sy), .err (validE d c m dr cr sy)])) (run (env (G7 ++ rest) [(31, kValid), (49, kStarts), (82, kInstr), (17, kTables), (18, kClass)]) [(6, LSites d c m dr cr sy (startsF c m m.length))] (bodyOf Tryd.f43) (start [.agg [.ro .u32 d, .ro .u32 c, .ro .u8 m, .ro .rel dr, .ro .rel cr, .ro .sym sy]] 48) (ends (env (G7 ++ rest) [(31, kValid), (49, kStarts), (82, kInstr), (17, kTables), (18, kClass)]) Tryd.f43.results.toList))) = (
  ((!!FErr.isErr (validE d c m dr cr sy)) = true → @List.nil (RT.ty RT.site) = sitesM d c m dr cr sy ∧ validE d c m dr cr sy = validE d c m dr cr sy) ∧ ((!!FErr.isErr (validE d c m dr cr sy)) = false → List.length m ≤ (1000000 : Nat) ∧ (List.length m ≤ (1000000 : Nat) → (List.length (startsF c m (List.length m)) ≤ (1000000 : Nat) ∧ (↑(List.length (startsF c m (List.length m))) : Int) = (↑(List.length (startsF c m (List.length m))) : Int) ∧ (0 : Int) = (↑(0 : Nat) : Int) ∧ d = d ∧ c = c ∧ m = m ∧ dr = dr ∧ cr = cr ∧ sy = sy ∧ @List.nil (RT.ty RT.site) = sitesF c m (List.take (0 : Nat) (startsF c m (List.length m))) ∧ startsF c m (List.length m) = startsF c m (List.length m)) ∧ (List.length (startsF c m (List.length m)) ≤ (1000000 : Nat) ∧ (↑(List.length (startsF c m (List.length m))) : Int) = (↑(List.length (startsF c m (List.length m))) : Int) ∧ (0 : Int) = (↑(0 : Nat) : Int) ∧ d = d ∧ c = c ∧ m = m ∧ dr = dr ∧ cr = cr ∧ sy = sy ∧ @List.nil (RT.ty RT.site) = sitesF c m (List.take (0 : Nat) (startsF c m (List.length m))) ∧ startsF c m (List.length m) = startsF c m (List.length m) → sitesF c m (startsF c m (List.length m)) = sitesM d c m dr cr sy ∧ FErr.fine = validE d c m dr cr sy)))) := by kernel_rfl
set_option maxHeartbeats 4000000 in
theorem cSites : Con ea has (G7 ++ rest) 43 kSites := by
  refine plain_mkB Tryd.func43 48 (con := [(31, kValid), (49, kStarts), (82, kInstr), (17, kTables), (18, kClass)]) ⟨cValid, cStarts, cInstr, cTables, cClass, trivial⟩ (fun hA hr hv => ?_) (by kernel_rfl) (by kernel_rfl) Tryd.ntmps43
  unfold kSites at hr; split at hr
  · rename_i d c m dr cr sy
    have := ret_ok hr; subst this
    refine ⟨_, [(6, LSites d c m dr cr sy (startsF c m m.length))], rfl, rfl, .of (argSites d c m dr cr sy) (by simp), rfl, (fun W R ρ0 own0 hown => hl1 (by kernel_rfl) (by kernel_rfl) (lSites d c m dr cr sy (startsF c m m.length) hown)), .of (runSites rest d c m dr cr sy) ?_⟩
    clear hr
    refine ⟨fun h => ?_, fun h => ?_⟩
    · have h : (validE d c m dr cr sy).isErr = true := by simpa using h
      rw [sitesM, if_pos h]; exact ⟨rfl, rfl⟩
    · have h : (validE d c m dr cr sy).isErr = false := by simpa using h
      obtain ⟨v1, v2, _⟩ := valid_size h
      have hs := startsF_len c m m.length
      rw [sitesM, if_neg (by rw [h]; simp)]
      refine ⟨by omega, fun _ => ⟨?_, fun _ => ⟨rfl, (fine_of h).symm⟩⟩⟩
      simp [sitesF]; omega
  · cases hr
def lightB (d c m : List Int) (dr cr : List Rel) (sy : List Sm) (w : Int) : Bool :=
  decide (w < d.length) || decide (w < c.length) || decide (w + 20 < m.length) || decide ((40 : Int) < dr.length) || decide ((80 : Int) < cr.length) || decide ((40 : Int) < sy.length)
def longP (sy : List Sm) (i : Nat) : Bool := decide ((60 : Int) < (sy.getD i RT.sym.dflt).name.size)
def noneP (p : Nat → Bool) : Nat → Bool
  | 0 => true
  | n + 1 => noneP p n && !p n
theorem noneP_at {p : Nat → Bool} {i n : Nat} (hp : p i = true) (hn : i < n) : noneP p n = false := by
  induction n with
  | zero => omega
  | succ n ih =>
    rw [noneP]
    by_cases e : i = n
    · subst e; rw [hp]; simp
    · rw [ih (by omega)]; rfl
def HLight (d c m : List Int) (dr cr : List Rel) (sy : List Sm) (i : Nat) : SState := { fr := [(2, .ptr 0 0), (5, .int .i64 (.sym i 0 1000000))], hp := [(0, some (.cells [.ro .u32 d, .ro .u32 c, .ro .u8 m, .ro .rel dr, .ro .rel cr, .ro .sym sy]))], next := 1, sz := 59 }
def XLight (d c m : List Int) (dr cr : List Rel) (sy : List Sm) : SState := { fr := [], hp := [], next := 0, sz := 59 }
def YLight (d c m : List Int) (dr cr : List Rel) (sy : List Sm) : SState := { fr := [(4, .bool (.lit false))], hp := [], next := 0, sz := 59 }
def LLight (d c m : List Int) (dr cr : List Rel) (sy : List Sm) : LSum := ⟨HLight d c m dr cr sy 0, fun k => .ite (noneP (longP sy) sy.length) (k (.exit 0) (XLight d c m dr cr sy)) (k .ret (YLight d c m dr cr sy)), sy.length ≤ 1000000⟩
theorem bLight (rest : List (Nat × SVal)) (d c m : List Int) (dr cr : List Rel) (sy : List Sm) (i : Nat) : (Tr.sat (rnd2 (env (G7 ++ rest) []) (fun i => noneP (longP sy) i = true) (sy.length) (HLight d c m dr cr sy) 0 (noneP (longP sy) sy.length) (XLight d c m dr cr sy) (YLight d c m dr cr sy) i) (run (env (G7 ++ rest) []) [] (loopN (bodyOf Tryd.f28) 0) (HLight d c m dr cr sy i) .leaf)) = (
  (decide ((↑i : Int) < (↑(List.length sy) : Int)) = true → ((0 : Int) ≤ (↑i : Int) ∧ (↑i : Int) < (↑(List.length sy) : Int)) ∧ ((0 : Int) ≤ (↑i : Int) ∧ (↑i : Int) < (↑(List.length sy) : Int) → (decide ((60 : Int) < (↑(ByteArray.size (List.getD sy (Int.toNat (↑i : Int)) (RT.dflt RT.sym)).name) : Int)) = true → noneP (longP sy) (List.length sy) = false ∧ false = false) ∧ (decide ((60 : Int) < (↑(ByteArray.size (List.getD sy (Int.toNat (↑i : Int)) (RT.dflt RT.sym)).name) : Int)) = false → i < List.length sy ∧ noneP (longP sy) (i + (1 : Nat)) = true ∧ (↑i : Int) + (1 : Int) = (↑(i + (1 : Nat)) : Int) ∧ ((0 : Int) ≤ (↑(i + (1 : Nat)) : Int) ∧ (↑(i + (1 : Nat)) : Int) ≤ (1000000 : Int)) ∧ d = d ∧ c = c ∧ m = m ∧ dr = dr ∧ cr = cr ∧ sy = sy))) ∧ (decide ((↑i : Int) < (↑(List.length sy) : Int)) = false → Nat.beq (0 : Nat) (0 : Nat) = true ∧ noneP (longP sy) (List.length sy) = true ∧ True)) := by kernel_rfl
set_option maxHeartbeats 4000000 in
theorem lLight (d c m : List Int) (dr cr : List Rel) (sy : List Sm) {W : World} {R own0 : Nat → Prop} {ρ0 : Nat → Option Value} (hown : HownOk (env (G7 ++ rest) []) own0 ρ0) : LOk Tryd.prog (env (G7 ++ rest) []) (ctx ea has) (G7 ++ rest) W R own0 ρ0 (loopN (bodyOf Tryd.f28) 0) (LLight d c m dr cr sy) := by
  refine loop2_ok (env_ok (con := []) trivial) hown (ls := fun i => []) (fun i => noSums (by kernel_rfl)) (fun hm i hi hj => (bLight rest d c m dr cr sy i).mpr ?_) 0 (fun hm => by first | exact Nat.zero_le _ | omega) (fun hm => rfl)
  have hp : longP sy i = decide ((60 : Int) < (sy.getD i RT.sym.dflt).name.size) := rfl
  simp only [Int.toNat_natCast]
  refine ⟨fun h => ?_, fun h => ?_⟩
  · have h := of_decide_eq_true h
    have hlt : i < sy.length := by omega
    refine ⟨by omega, fun _ => ⟨fun h2 => ⟨noneP_at (hp.trans h2) hlt, trivial⟩, fun h2 => ?_⟩⟩
    refine ⟨hlt, by rw [noneP, hj, hp.trans h2]; rfl, ?_⟩
    simp; omega
  · have h := of_decide_eq_false h
    have e : i = sy.length := by omega
    subst e
    exact ⟨rfl, hj, trivial⟩
def kLight : List SVal → Nat → Acc ORes := fun a n => match a with | [.agg [.ro .u32 d, .ro .u32 c, .ro .u8 m, .ro .rel dr, .ro .rel cr, .ro .sym sy], .int .i64 w] => .ret ({ v := .bool (.sym (!lightB d c m dr cr sy w.val && noneP (longP sy) sy.length)), vc := some (0 ≤ w.val ∧ w.val ≤ 1000000) }) | _ => .fail "Light"
theorem argLight (d c m : List Int) (dr cr : List Rel) (sy : List Sm) (w : SI) : (all (subL tAtN none' [] deep [.agg [.ro .u32 d, .ro .u32 c, .ro .u8 m, .ro .rel dr, .ro .rel cr, .ro .sym sy], .int .i64 w] [.agg [.ro .u32 d, .ro .u32 c, .ro .u8 m, .ro .rel dr, .ro .rel cr, .ro .sym sy], .int .i64 (.full w.val)])) = (
  d = d ∧ c = c ∧ m = m ∧ dr = dr ∧ cr = cr ∧ sy = sy ∧ SI.val w = SI.val w) := by kernel_rfl
theorem runLight (rest : List (Nat × SVal)) (d : List Int) (c : List Int) (m : List Int) (dr : List Rel) (cr : List Rel) (sy : List Sm) (w : Int) : (Tr.sat (plainQ (.bool (.sym (!lightB d c m dr cr sy w && noneP (longP sy) sy.length)))) (run (env (G7 ++ rest) []) [(4, LLight d c m dr cr sy)] (bodyOf Tryd.f28) (start [.agg [.ro .u32 d, .ro .u32 c, .ro .u8 m, .ro .rel dr, .ro .rel cr, .ro .sym sy], .int .i64 (.full w)] 59) (ends (env (G7 ++ rest) []) Tryd.f28.results.toList))) = (
  ((decide (w < (↑(List.length d) : Int)) || decide (w < (↑(List.length c) : Int)) || decide (IntKind.wrap IntKind.i64 (w + (20 : Int)) < (↑(List.length m) : Int)) || decide ((40 : Int) < (↑(List.length dr) : Int)) || decide ((80 : Int) < (↑(List.length cr) : Int)) || decide ((40 : Int) < (↑(List.length sy) : Int))) = true → false = (!lightB d c m dr cr sy w && noneP (longP sy) (List.length sy))) ∧ ((decide (w < (↑(List.length d) : Int)) || decide (w < (↑(List.length c) : Int)) || decide (IntKind.wrap IntKind.i64 (w + (20 : Int)) < (↑(List.length m) : Int)) || decide ((40 : Int) < (↑(List.length dr) : Int)) || decide ((80 : Int) < (↑(List.length cr) : Int)) || decide ((40 : Int) < (↑(List.length sy) : Int))) = false → (List.length sy ≤ (1000000 : Nat) ∧ (0 : Int) = (↑(0 : Nat) : Int) ∧ d = d ∧ c = c ∧ m = m ∧ dr = dr ∧ cr = cr ∧ sy = sy) ∧ (List.length sy ≤ (1000000 : Nat) ∧ (0 : Int) = (↑(0 : Nat) : Int) ∧ d = d ∧ c = c ∧ m = m ∧ dr = dr ∧ cr = cr ∧ sy = sy → (noneP (longP sy) (List.length sy) = true → true = (!lightB d c m dr cr sy w && noneP (longP sy) (List.length sy))) ∧ (noneP (longP sy) (List.length sy) = false → false = (!lightB d c m dr cr sy w && noneP (longP sy) (List.length sy)))))) := by kernel_rfl
set_option maxHeartbeats 4000000 in
theorem cLight : Con ea has (G7 ++ rest) 28 kLight := by
  refine plain_mkB Tryd.func28 59 (con := []) trivial (fun hA hr hv => ?_) (by kernel_rfl) (by kernel_rfl) Tryd.ntmps28
  unfold kLight at hr; split at hr
  · rename_i d c m dr cr sy w
    have := ret_ok hr; subst this
    replace hv := hv _ rfl
    refine ⟨_, [(4, LLight d c m dr cr sy)], rfl, rfl, .of (argLight d c m dr cr sy w) (by simp), rfl, (fun W R ρ0 own0 hown => hl1 (by kernel_rfl) (by kernel_rfl) (lLight d c m dr cr sy hown)), .of (runLight rest d c m dr cr sy w.val) ?_⟩
    clear hr
    have w1 : IntKind.i64.wrap (w.val + 20) = w.val + 20 := by rw [IntKind.wrap_i64]; omega
    rw [w1]
    clear hA
    generalize w.val = w at *
    refine ⟨fun h => ?_, fun h => ?_⟩
    · rw [show lightB d c m dr cr sy w = true from h]; rfl
    · rw [show lightB d c m dr cr sy w = false from h]
      simp only [Bool.or_eq_false_iff, decide_eq_false_iff_not] at h
      refine ⟨⟨by omega, rfl, rfl, rfl, rfl, rfl, rfl, rfl⟩, fun _ => ⟨fun h => by rw [h]; rfl, fun h => by rw [h]; rfl⟩⟩
  · cases hr
end
end Go.Proofs.YtceebkojjmmjmaaDoor

