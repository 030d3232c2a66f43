/- Contracts that the proofs use. -/
import Derived.Test.YtceebkojjmmjmaaDoorQReadS
set_option linter.unusedVariables false
set_option linter.unusedSimpArgs false
namespace Go.Proofs.YtceebkojjmmjmaaDoor
open Go.RowKit Go.Sy Go.Fac
section
variable {ea : Int → Addr} {has : Int → Prop} {rest : List (Nat × SVal)}
theorem ro_bytes {C : Ctx} {W : World} {R : Nat → Prop} {ρ : Nat → Option Value} : ∀ {l : List Int} {vs : List Value}, DenL C W R ρ (l.flatMap (RT.enc .u8)) vs → byt l
  | [], _, _ => fun x hx => by cases hx
  | y :: l, vs, h => by
    rw [List.flatMap_cons] at h
    obtain ⟨a, b, rfl, ha, hb⟩ := h.split
    intro x hx
    rcases List.mem_cons.1 hx with rfl | hx
    · have ha : DenL C W R ρ [.int .u8 (.full x)] a := ha
      obtain ⟨v, us, rfl, _, h2, _⟩ := ha.inv_one rfl
      have := h2.int_inv.2
      have h1 := this.lo; have h2 := this.hi
      simp only [SI.val, kmin, kmax] at h1 h2
      omega
    · exact ro_bytes hb x hx
theorem ro_wrd {C : Ctx} {W : World} {R : Nat → Prop} {ρ : Nat → Option Value} : ∀ {l : List Int} {vs : List Value}, DenL C W R ρ (l.flatMap (RT.enc .u32)) vs → wrd l
  | [], _, _ => fun x hx => by cases hx
  | y :: l, vs, h => by
    rw [List.flatMap_cons] at h
    obtain ⟨a, b, rfl, ha, hb⟩ := h.split
    intro x hx
    rcases List.mem_cons.1 hx with rfl | hx
    · have ha : DenL C W R ρ [.int .u32 (.full x)] a := ha
      obtain ⟨v, us, rfl, _, h2, _⟩ := ha.inv_one rfl
      have := h2.int_inv.2
      have h1 := this.lo; have h2 := this.hi
      simp only [SI.val, kmin, kmax] at h1 h2
      omega
    · exact ro_wrd hb x hx
theorem byt_fact {C : Ctx} {W : World} {R : Nat → Prop} {ρ : Nat → Option Value} {l : List Int} {more : List SVal} {vs : List Value} (h : DenA C W R ρ (.ro .u8 l :: more) vs) : byt l := by
  cases h with
  | cons _ _ _ _ h _ => cases h; exact ro_bytes ‹_›
theorem byt_fact2 {C : Ctx} {W : World} {R : Nat → Prop} {ρ : Nat → Option Value} {l : List Int} {x : SVal} {more : List SVal} {vs : List Value} (h : DenA C W R ρ (x :: .ro .u8 l :: more) vs) : byt l := by
  cases h with
  | cons _ _ _ _ _ h => exact byt_fact h
theorem wrd_fact {C : Ctx} {W : World} {R : Nat → Prop} {ρ : Nat → Option Value} {d c m : List Int} {r : List SVal} {more : List SVal} {vs : List Value} (h : DenA C W R ρ (.agg (.ro .u32 d :: .ro .u32 c :: .ro .u8 m :: r) :: more) vs) : wrd d ∧ wrd c ∧ byt m := by
  cases h with
  | cons _ _ _ _ h _ =>
    cases h with
    | agg _ _ h =>
      obtain ⟨v, us, rfl, _, h1, h2⟩ := h.inv_one rfl
      obtain ⟨v', us', rfl, _, h3, h4⟩ := h2.inv_one rfl
      obtain ⟨v', us', rfl, _, h5, _⟩ := h4.inv_one rfl
      refine ⟨?_, ?_, ?_⟩
      · cases h1; exact ro_wrd ‹_›
      · cases h3; exact ro_wrd ‹_›
      · cases h5; exact ro_bytes ‹_›
abbrev kReadF := frz [.ro .u8] kRead
theorem cReadF : Con ea has (G7 ++ (G9 ++ rest)) 29 kReadF := frz_ok cRead _
abbrev kfBB := bor [.ro .u8, .ro .u8] kfB
theorem cfBB : Con ea has (G7 ++ (G9 ++ rest)) 32 kfBB := bor_ok cfB _
def HBytesQ' (l : List Int) (i : Nat) : SState := { fr := [(0, .ro .u8 l), (3, .own 0), (4, .int .i64 (.sym i 0 1000000))], hp := [(0, some (.recs .u8 (l.take i)))], next := 1, sz := 22 }
def XBytesQ' (l : List Int) : SState := { fr := [(3, .own 0)], hp := [(0, some (.recs .u8 l))], next := 1, sz := 22 }
def LBytesQ' (l : List Int) : LSum := ⟨HBytesQ' l 0, fun k => k (.exit 0) (XBytesQ' l), l.length ≤ 1000000⟩
theorem bBytesQ' (rest : List (Nat × SVal)) (l : List Int) (i : Nat) : (Tr.sat (rnd1 (env (G7 ++ (G9 ++ rest)) []) (fun _ => True) (l.length) (HBytesQ' l) 0 (XBytesQ' l) i) (run (env (G7 ++ (G9 ++ rest)) []) [] (loopN (bodyOf Tryd.f34) 0) (HBytesQ' l i) .leaf)) = (
  (decide ((↑i : Int) < (↑(List.length l) : Int)) = true → ((0 : Int) ≤ (↑i : Int) ∧ (↑i : Int) < (↑(List.length l) : Int)) ∧ ((0 : Int) ≤ (↑i : Int) ∧ (↑i : Int) < (↑(List.length l) : Int) → List.length (List.take i l) + List.length [List.getD l (Int.toNat (↑i : Int)) (RT.dflt RT.u8)] ≤ (137438953472 : Nat) ∧ (List.length (List.take i l) + List.length [List.getD l (Int.toNat (↑i : Int)) (RT.dflt RT.u8)] ≤ (137438953472 : Nat) → i < List.length l ∧ True ∧ l = l ∧ (↑i : Int) + (1 : Int) = (↑(i + (1 : Nat)) : Int) ∧ ((0 : Int) ≤ (↑(i + (1 : Nat)) : Int) ∧ (↑(i + (1 : Nat)) : Int) ≤ (1000000 : Int)) ∧ List.take i l ++ [List.getD l (Int.toNat (↑i : Int)) (RT.dflt RT.u8)] = List.take (i + (1 : Nat)) l))) ∧ (decide ((↑i : Int) < (↑(List.length l) : Int)) = false → Nat.beq (0 : Nat) (0 : Nat) = true ∧ List.take i l = l)) := by kernel_rfl
set_option maxHeartbeats 4000000 in
theorem lBytesQ' (l : List Int) {W : World} {R own0 : Nat → Prop} {ρ0 : Nat → Option Value} (hown : HownOk (env (G7 ++ (G9 ++ rest)) []) own0 ρ0) : LOk Tryd.prog (env (G7 ++ (G9 ++ rest)) []) (ctx ea has) (G7 ++ (G9 ++ rest)) W R own0 ρ0 (loopN (bodyOf Tryd.f34) 0) (LBytesQ' l) := by
  refine loop1_ok (env_ok (con := []) trivial) hown (ls := fun i => []) (fun i => noSums (by kernel_rfl)) (fun hm i hi hj => (bBytesQ' rest l i).mpr ?_) 0 (fun hm => by first | exact Nat.zero_le _ | omega) (fun hm => trivial)
  have d0 : RT.u8.dflt = (0 : Int) := rfl
  simp only [d0, Int.toNat_natCast, List.length_singleton, List.length_take]
  refine ⟨fun h => ?_, fun h => ?_⟩
  · have h := of_decide_eq_true h
    have hlt : i < l.length := by omega
    have : l.take i ++ [l.getD i 0] = l.take (i + 1) := by rw [List.take_add_one, List.getElem?_eq_getElem hlt]; simp [hlt]
    refine ⟨by omega, fun _ => ⟨by omega, fun _ => ⟨hlt, trivial, ?_⟩⟩⟩
    simp only [this, true_and, and_true]; omega
  · have h := of_decide_eq_false h
    exact ⟨rfl, List.take_of_length_le (by omega)⟩
def kBytesQ : List SVal → Nat → Acc ORes := fun a n => match a with | [.ro .u8 l] => .ret (newR n (.own 0) ([(0, .recs .u8 l)]) 1 (some (l.length ≤ 1000000))) | _ => .fail "BytesQ"
theorem argBytesQ (l : List Int) : (all (subL tAtN none' [] deep [.ro .u8 l] [.ro .u8 l])) = (
  l = l) := by kernel_rfl
theorem runBytesQ (rest : List (Nat × SVal)) (l : List Int) : (Tr.sat (newQ (env (G7 ++ (G9 ++ rest)) []) (.own 0) ([(0, .recs .u8 l)]) 1) (run (env (G7 ++ (G9 ++ rest)) []) [(3, LBytesQ' l)] (bodyOf Tryd.f34) (start [.ro .u8 l] 22) (ends (env (G7 ++ (G9 ++ rest)) []) Tryd.f34.results.toList))) = (
  ((0 : Int) ≤ (0 : Int) ∧ (0 : Int) ≤ (↑(List.length l) : Int) ∧ (↑(List.length l) : Int) ≤ (137438953472 : Int)) ∧ ((0 : Int) ≤ (0 : Int) ∧ (0 : Int) ≤ (↑(List.length l) : Int) ∧ (↑(List.length l) : Int) ≤ (137438953472 : Int) → (List.length l ≤ (1000000 : Nat) ∧ l = l ∧ (0 : Int) = (↑(0 : Nat) : Int) ∧ List.replicate (Int.toNat (0 : Int)) (RT.dflt RT.u8) = List.take (0 : Nat) l) ∧ (List.length l ≤ (1000000 : Nat) ∧ l = l ∧ (0 : Int) = (↑(0 : Nat) : Int) ∧ List.replicate (Int.toNat (0 : Int)) (RT.dflt RT.u8) = List.take (0 : Nat) l → l = l))) := by kernel_rfl
set_option maxHeartbeats 4000000 in
theorem gBytesQ (l : List Int)  (hv : l.length ≤ 1000000) : Box (Tr.sat (newQ (env (G7 ++ (G9 ++ rest)) []) (.own 0) ([(0, .recs .u8 l)]) 1) (run (env (G7 ++ (G9 ++ rest)) []) [(3, LBytesQ' l)] (bodyOf Tryd.f34) (start [.ro .u8 l] 22) (ends (env (G7 ++ (G9 ++ rest)) []) Tryd.f34.results.toList))) := by
  refine .of (runBytesQ rest l) ?_
  exact ⟨by omega, fun _ => ⟨⟨hv, rfl, rfl, rfl⟩, fun _ => rfl⟩⟩
set_option maxHeartbeats 4000000 in
theorem cBytesQ : Con ea has (G7 ++ (G9 ++ rest)) 34 kBytesQ := by
  refine new_mkB Tryd.func34 22 (con := []) trivial (fun hA hr hv => ?_) (by kernel_rfl) (by kernel_rfl) Tryd.ntmps34
  unfold kBytesQ at hr; split at hr
  · rename_i l
    have := ret_ok hr; subst this
    replace hv := hv _ rfl
    exact ⟨_, [(3, LBytesQ' l)], _, _, _, ⟨rfl, rfl, rfl⟩, .of (argBytesQ l) (by simp), rfl, rfl, (fun W R ρ0 own0 hown => hl1 (by kernel_rfl) (by kernel_rfl) (lBytesQ' l hown)), gBytesQ l  hv⟩
  · cases hr
def kObjBack : List SVal → Nat → Acc ORes := fun a n => match a with | [.agg [.ro .u32 d, .ro .u32 c, .ro .u8 m, .ro .rel dr, .ro .rel cr, .ro .sym sy], .ro .u8 b, .int .i64 cut] => .ret ({ v := .bool (.lit true) }) | _ => .fail "ObjBack"
theorem argObjBack (d c m : List Int) (dr cr : List Rel) (sy : List Sm) (b : List Int) (cut : SI) : (all (subL tAtN none' [] deep [.agg [.ro .u32 d, .ro .u32 c, .ro .u8 m, .ro .rel dr, .ro .rel cr, .ro .sym sy], .ro .u8 b, .int .i64 cut] [.agg [.ro .u32 d, .ro .u32 c, .ro .u8 m, .ro .rel dr, .ro .rel cr, .ro .sym sy], .ro .u8 b, .int .i64 (.full cut.val)])) = (
  d = d ∧ c = c ∧ m = m ∧ dr = dr ∧ cr = cr ∧ sy = sy ∧ b = b ∧ SI.val cut = SI.val cut) := by kernel_rfl
theorem runObjBack (rest : List (Nat × SVal)) (d c m : List Int) (dr cr : List Rel) (sy : List Sm) (b : List Int) (cut : Int) : (Tr.sat (plainQ (.bool (.lit true))) (run (env (G7 ++ (G9 ++ rest)) [(27, kfirst9), (28, kLight), (29, kReadF), (30, kBytes), (31, kValid), (32, kfBB), (33, kNumber), (34, kBytesQ), (35, kSame), (36, kSeeIs)]) [(1000011, cutL { fr := [(2, .int .i64 (.full cut)), (3, .ptr 0 0), (7, .bool (.lit true)), (12, .ro .u8 (bytesM d c m dr cr sy)), (13, .err (validE d c m dr cr sy))], hp := [(0, some (.cells [.ro .u32 d, .ro .u32 c, .ro .u8 m, .ro .rel dr, .ro .rel cr, .ro .sym sy]))], next := 1, sz := 111 })] (bodyOf Tryd.f5) (start [.agg [.ro .u32 d, .ro .u32 c, .ro .u8 m, .ro .rel dr, .ro .rel cr, .ro .sym sy], .ro .u8 b, .int .i64 (.full cut)] 111) (ends (env (G7 ++ (G9 ++ rest)) [(27, kfirst9), (28, kLight), (29, kReadF), (30, kBytes), (31, kValid), (32, kfBB), (33, kNumber), (34, kBytesQ), (35, kSame), (36, kSeeIs)]) Tryd.f5.results.toList))) = (
  ((0 : Int) ≤ (200 : Int) ∧ (200 : Int) ≤ (1000000 : Int)) ∧ ((0 : Int) ≤ (200 : Int) ∧ (200 : Int) ≤ (1000000 : Int) → ((!(!lightB d c m dr cr sy (200 : Int) && noneP (longP sy) (List.length sy)) || decide ((4000 : Int) < (↑(List.length b) : Int))) = true → true = true) ∧ ((!(!lightB d c m dr cr sy (200 : Int) && noneP (longP sy) (List.length sy)) || decide ((4000 : Int) < (↑(List.length b) : Int))) = false → ((!FErr.isErr (readE b)) = true → ((!(!!FErr.isErr (validE (rdD b) (rdC b) (rdM b) (rdDr b) (rdCr b) (rdS b)) || !!FErr.isErr (validE (rdD b) (rdC b) (rdM b) (rdDr b) (rdCr b) (rdS b)))) = true → List.length (bytesM (rdD b) (rdC b) (rdM b) (rdDr b) (rdCr b) (rdS b)) ≤ (1000000 : Nat)) ∧ (((!(!!FErr.isErr (validE (rdD b) (rdC b) (rdM b) (rdDr b) (rdCr b) (rdS b)) || !!FErr.isErr (validE (rdD b) (rdC b) (rdM b) (rdDr b) (rdCr b) (rdS b)))) = true → List.length (bytesM (rdD b) (rdC b) (rdM b) (rdDr b) (rdCr b) (rdS b)) ≤ (1000000 : Nat)) → ((!!FErr.isErr (validE (rdD b) (rdC b) (rdM b) (rdDr b) (rdCr b) (rdS b)) || !!FErr.isErr (validE (rdD b) (rdC b) (rdM b) (rdDr b) (rdCr b) (rdS b)) || !decide (bytesM (rdD b) (rdC b) (rdM b) (rdDr b) (rdCr b) (rdS b) = b)) = true → false = true) ∧ ((!!FErr.isErr (validE (rdD b) (rdC b) (rdM b) (rdDr b) (rdCr b) (rdS b)) || !!FErr.isErr (validE (rdD b) (rdC b) (rdM b) (rdDr b) (rdCr b) (rdS b)) || !decide (bytesM (rdD b) (rdC b) (rdM b) (rdDr b) (rdCr b) (rdS b) = b)) = false → (cut = cut ∧ true = true ∧ bytesM d c m dr cr sy = bytesM d c m dr cr sy ∧ validE d c m dr cr sy = validE d c m dr cr sy ∧ d = d ∧ c = c ∧ m = m ∧ dr = dr ∧ cr = cr ∧ sy = sy) ∧ (cut = cut ∧ true = true ∧ bytesM d c m dr cr sy = bytesM d c m dr cr sy ∧ validE d c m dr cr sy = validE d c m dr cr sy ∧ d = d ∧ c = c ∧ m = m ∧ dr = dr ∧ cr = cr ∧ sy = sy → ((!!FErr.isErr (validE d c m dr cr sy)) = true → (!!FErr.isErr (validE d c m dr cr sy)) = true) ∧ ((!!FErr.isErr (validE d c m dr cr sy)) = false → (0 : Int) < (↑(List.length (bytesM d c m dr cr sy)) : Int) ∧ ((0 : Int) < (↑(List.length (bytesM d c m dr cr sy)) : Int) → ((0 : Int) ≤ cut % (↑(List.length (bytesM d c m dr cr sy)) : Int) ∧ cut % (↑(List.length (bytesM d c m dr cr sy)) : Int) ≤ (↑(List.length (bytesM d c m dr cr sy)) : Int)) ∧ ((0 : Int) ≤ cut % (↑(List.length (bytesM d c m dr cr sy)) : Int) ∧ cut % (↑(List.length (bytesM d c m dr cr sy)) : Int) ≤ (↑(List.length (bytesM d c m dr cr sy)) : Int) → List.length (bytesM d c m dr cr sy) ≤ (1000000 : Nat) ∧ (List.length (bytesM d c m dr cr sy) ≤ (1000000 : Nat) → List.length (bytesM d c m dr cr sy) + List.length [(0 : Int)] ≤ (137438953472 : Nat) ∧ (List.length (bytesM d c m dr cr sy) + List.length [(0 : Int)] ≤ (137438953472 : Nat) → ((!FErr.isErr (readE (bytesM d c m dr cr sy))) = true → lenOb (rdD (bytesM d c m dr cr sy)) (rdC (bytesM d c m dr cr sy)) (rdM (bytesM d c m dr cr sy)) (rdDr (bytesM d c m dr cr sy)) (rdCr (bytesM d c m dr cr sy)) (rdS (bytesM d c m dr cr sy))) ∧ (((!FErr.isErr (readE (bytesM d c m dr cr sy))) = true → lenOb (rdD (bytesM d c m dr cr sy)) (rdC (bytesM d c m dr cr sy)) (rdM (bytesM d c m dr cr sy)) (rdDr (bytesM d c m dr cr sy)) (rdCr (bytesM d c m dr cr sy)) (rdS (bytesM d c m dr cr sy))) → (!FErr.isErr (readE (bytesM d c m dr cr sy)) && sameOb (rdD (bytesM d c m dr cr sy)) (rdC (bytesM d c m dr cr sy)) (rdM (bytesM d c m dr cr sy)) (rdDr (bytesM d c m dr cr sy)) (rdCr (bytesM d c m dr cr sy)) (rdS (bytesM d c m dr cr sy)) d c m dr cr sy && !!FErr.isErr (readE (pieceL (bytesM d c m dr cr sy) none (some (SI.full (cut % (↑(List.length (bytesM d c m dr cr sy)) : Int)))))) && (decide (fcode (readE (bytesM d c m dr cr sy ++ [(0 : Int)])) = (102 : Int)) && FErr.isPlaced (readE (bytesM d c m dr cr sy ++ [(0 : Int)])) == false && decide (FErr.pos (readE (bytesM d c m dr cr sy ++ [(0 : Int)])) = (0 : Int)))) = true)))))))))) ∧ ((!FErr.isErr (readE b)) = false → (cut = cut ∧ true = true ∧ bytesM d c m dr cr sy = bytesM d c m dr cr sy ∧ validE d c m dr cr sy = validE d c m dr cr sy ∧ d = d ∧ c = c ∧ m = m ∧ dr = dr ∧ cr = cr ∧ sy = sy) ∧ (cut = cut ∧ true = true ∧ bytesM d c m dr cr sy = bytesM d c m dr cr sy ∧ validE d c m dr cr sy = validE d c m dr cr sy ∧ d = d ∧ c = c ∧ m = m ∧ dr = dr ∧ cr = cr ∧ sy = sy → ((!!FErr.isErr (validE d c m dr cr sy)) = true → (!!FErr.isErr (validE d c m dr cr sy)) = true) ∧ ((!!FErr.isErr (validE d c m dr cr sy)) = false → (0 : Int) < (↑(List.length (bytesM d c m dr cr sy)) : Int) ∧ ((0 : Int) < (↑(List.length (bytesM d c m dr cr sy)) : Int) → ((0 : Int) ≤ cut % (↑(List.length (bytesM d c m dr cr sy)) : Int) ∧ cut % (↑(List.length (bytesM d c m dr cr sy)) : Int) ≤ (↑(List.length (bytesM d c m dr cr sy)) : Int)) ∧ ((0 : Int) ≤ cut % (↑(List.length (bytesM d c m dr cr sy)) : Int) ∧ cut % (↑(List.length (bytesM d c m dr cr sy)) : Int) ≤ (↑(List.length (bytesM d c m dr cr sy)) : Int) → List.length (bytesM d c m dr cr sy) ≤ (1000000 : Nat) ∧ (List.length (bytesM d c m dr cr sy) ≤ (1000000 : Nat) → List.length (bytesM d c m dr cr sy) + List.length [(0 : Int)] ≤ (137438953472 : Nat) ∧ (List.length (bytesM d c m dr cr sy) + List.length [(0 : Int)] ≤ (137438953472 : Nat) → ((!FErr.isErr (readE (bytesM d c m dr cr sy))) = true → lenOb (rdD (bytesM d c m dr cr sy)) (rdC (bytesM d c m dr cr sy)) (rdM (bytesM d c m dr cr sy)) (rdDr (bytesM d c m dr cr sy)) (rdCr (bytesM d c m dr cr sy)) (rdS (bytesM d c m dr cr sy))) ∧ (((!FErr.isErr (readE (bytesM d c m dr cr sy))) = true → lenOb (rdD (bytesM d c m dr cr sy)) (rdC (bytesM d c m dr cr sy)) (rdM (bytesM d c m dr cr sy)) (rdDr (bytesM d c m dr cr sy)) (rdCr (bytesM d c m dr cr sy)) (rdS (bytesM d c m dr cr sy))) → (!FErr.isErr (readE (bytesM d c m dr cr sy)) && sameOb (rdD (bytesM d c m dr cr sy)) (rdC (bytesM d c m dr cr sy)) (rdM (bytesM d c m dr cr sy)) (rdDr (bytesM d c m dr cr sy)) (rdCr (bytesM d c m dr cr sy)) (rdS (bytesM d c m dr cr sy)) d c m dr cr sy && !!FErr.isErr (readE (pieceL (bytesM d c m dr cr sy) none (some (SI.full (cut % (↑(List.length (bytesM d c m dr cr sy)) : Int)))))) && (decide (fcode (readE (bytesM d c m dr cr sy ++ [(0 : Int)])) = (102 : Int)) && FErr.isPlaced (readE (bytesM d c m dr cr sy ++ [(0 : Int)])) == false && decide (FErr.pos (readE (bytesM d c m dr cr sy ++ [(0 : Int)])) = (0 : Int)))) = true))))))))))) := by kernel_rfl
set_option maxHeartbeats 4000000 in
theorem gObjBack (d c m : List Int) (dr cr : List Rel) (sy : List Sm) (b : List Int) (cut : Int) (hw : wrd d ∧ wrd c ∧ byt m) (hb : byt b) : Box (Tr.sat (plainQ (.bool (.lit true))) (run (env (G7 ++ (G9 ++ rest)) [(27, kfirst9), (28, kLight), (29, kReadF), (30, kBytes), (31, kValid), (32, kfBB), (33, kNumber), (34, kBytesQ), (35, kSame), (36, kSeeIs)]) [(1000011, cutL { fr := [(2, .int .i64 (.full cut)), (3, .ptr 0 0), (7, .bool (.lit true)), (12, .ro .u8 (bytesM d c m dr cr sy)), (13, .err (validE d c m dr cr sy))], hp := [(0, some (.cells [.ro .u32 d, .ro .u32 c, .ro .u8 m, .ro .rel dr, .ro .rel cr, .ro .sym sy]))], next := 1, sz := 111 })] (bodyOf Tryd.f5) (start [.agg [.ro .u32 d, .ro .u32 c, .ro .u8 m, .ro .rel dr, .ro .rel cr, .ro .sym sy], .ro .u8 b, .int .i64 (.full cut)] 111) (ends (env (G7 ++ (G9 ++ rest)) [(27, kfirst9), (28, kLight), (29, kReadF), (30, kBytes), (31, kValid), (32, kfBB), (33, kNumber), (34, kBytesQ), (35, kSame), (36, kSeeIs)]) Tryd.f5.results.toList))) := by
  refine .of (runObjBack rest d c m dr cr sy b cut) ?_
  obtain ⟨hd, hc, hm⟩ := hw
  -- what is said of the object alone
  have tail : (validE d c m dr cr sy).isErr = false → 0 < (bytesM d c m dr cr sy).length ∧ (bytesM d c m dr cr sy).length ≤ 200000 ∧ (readE (bytesM d c m dr cr sy)).isErr = false ∧ lenOb (rdD (bytesM d c m dr cr sy)) (rdC (bytesM d c m dr cr sy)) (rdM (bytesM d c m dr cr sy)) (rdDr (bytesM d c m dr cr sy)) (rdCr (bytesM d c m dr cr sy)) (rdS (bytesM d c m dr cr sy)) ∧
      sameOb (rdD (bytesM d c m dr cr sy)) (rdC (bytesM d c m dr cr sy)) (rdM (bytesM d c m dr cr sy)) (rdDr (bytesM d c m dr cr sy)) (rdCr (bytesM d c m dr cr sy)) (rdS (bytesM d c m dr cr sy)) d c m dr cr sy = true ∧
      (∀ k : Nat, k < (bytesM d c m dr cr sy).length → (readE ((bytesM d c m dr cr sy).take k)).isErr = true) ∧ readE (bytesM d c m dr cr sy ++ [0]) = .bare 102 := by
    intro hv
    rw [bytesM_is hv]
    have hl := bytesO_len hv
    obtain ⟨r0, r1, r2, r3, r4, r5, r6⟩ := read_ok hv hd hc
    rw [r1, r2, r3, r4, r5, r6]
    exact ⟨by omega, hl.2, r0, lenOb_of hv, by simp [sameOb], fun k hk => read_cut hv hd hc hm hk, read_more hv hd hc (by decide)⟩
  generalize bytesM d c m dr cr sy = X at *
  have fin : (validE d c m dr cr sy).isErr = false → 0 < (X.length : Int) ∧ (0 < (X.length : Int) → (0 ≤ cut % (X.length : Int) ∧ cut % (X.length : Int) ≤ (X.length : Int)) ∧ (0 ≤ cut % (X.length : Int) ∧ cut % (X.length : Int) ≤ (X.length : Int) → X.length ≤ 1000000 ∧ (X.length ≤ 1000000 → X.length + [(0 : Int)].length ≤ 137438953472 ∧ (X.length + [(0 : Int)].length ≤ 137438953472 →
      ((!(readE X).isErr) = true → lenOb (rdD X) (rdC X) (rdM X) (rdDr X) (rdCr X) (rdS X)) ∧ (((!(readE X).isErr) = true → lenOb (rdD X) (rdC X) (rdM X) (rdDr X) (rdCr X) (rdS X)) →
      (!(readE X).isErr && sameOb (rdD X) (rdC X) (rdM X) (rdDr X) (rdCr X) (rdS X) d c m dr cr sy && !!(readE (pieceL X none (some (SI.full (cut % (X.length : Int)))))).isErr && (decide (fcode (readE (X ++ [0])) = 102) && (readE (X ++ [0])).isPlaced == false && decide ((readE (X ++ [0])).pos = 0))) = true))))) := by
    intro hv
    obtain ⟨t1, t2, t3, t4, t5, t6, t7⟩ := tail hv
    have hpos : (0 : Int) < X.length := by omega
    have c1 := Int.emod_nonneg cut (show (X.length : Int) ≠ 0 by omega)
    have c2 := Int.emod_lt_of_pos cut hpos
    have hp : pieceL X none (some (SI.full (cut % (X.length : Int)))) = X.take (cut % (X.length : Int)).toNat := rfl
    refine ⟨hpos, fun _ => ⟨⟨c1, by omega⟩, fun _ => ⟨by omega, fun _ => ⟨by rw [List.length_singleton]; omega, fun _ => ⟨fun _ => t4, fun _ => ?_⟩⟩⟩⟩⟩
    rw [hp, t3, t5, t6 _ (by omega), t7]; rfl
  refine ⟨by omega, fun _ => ⟨fun _ => rfl, fun _ => ⟨fun h => ?_, fun h => ⟨⟨rfl, rfl, rfl, rfl, rfl, rfl, rfl, rfl, rfl, rfl⟩, fun _ => ⟨fun h => h, fun h => fin (by simpa using h)⟩⟩⟩⟩⟩
  have h : (readE b).isErr = false := by simpa using h
  obtain ⟨q1, q2⟩ := read_bytes hb h
  rw [q1, q2]
  by_cases hl : b.length ≤ 4000
  · exact ⟨fun _ => by omega, fun _ => ⟨fun h => (by simp at h), fun _ => ⟨⟨rfl, rfl, rfl, rfl, rfl, rfl, rfl, rfl, rfl, rfl⟩, fun _ => ⟨fun h => h, fun h => fin (by simpa using h)⟩⟩⟩⟩
  · rename_i hlt _
    rw [decide_eq_true (by omega)] at hlt
    simp at hlt
set_option maxHeartbeats 4000000 in
theorem cObjBack : Con ea has (G7 ++ (G9 ++ rest)) 5 kObjBack := by
  refine plain_mkB Tryd.func5 111 (con := [(27, kfirst9), (28, kLight), (29, kReadF), (30, kBytes), (31, kValid), (32, kfBB), (33, kNumber), (34, kBytesQ), (35, kSame), (36, kSeeIs)]) ⟨cfirst9, cLight, cReadF, cBytes, cValid, cfBB, cNumber, cBytesQ, cSame, cSeeIs, trivial⟩ (fun hA hr hv => ?_) (by kernel_rfl) (by kernel_rfl) Tryd.ntmps5
  unfold kObjBack at hr; split at hr
  · rename_i d c m dr cr sy b cut
    have := ret_ok hr; subst this
    exact ⟨_, [(1000011, cutL { fr := [(2, .int .i64 (.full cut.val)), (3, .ptr 0 0), (7, .bool (.lit true)), (12, .ro .u8 (bytesM d c m dr cr sy)), (13, .err (validE d c m dr cr sy))], hp := [(0, some (.cells [.ro .u32 d, .ro .u32 c, .ro .u8 m, .ro .rel dr, .ro .rel cr, .ro .sym sy]))], next := 1, sz := 111 })], rfl, rfl, .of (argObjBack d c m dr cr sy b cut) (by simp), rfl, (fun W R ρ0 own0 hown => noSums (by kernel_rfl)), gObjBack d c m dr cr sy b cut.val (wrd_fact hA) (byt_fact2 hA)⟩
  · cases hr
end
end Go.Proofs.YtceebkojjmmjmaaDoor

