/- Contracts that the proofs use. -/
import Derived.Test.YtacmmedhjebfjaaDoorQLinkGoes4
set_option linter.unusedVariables false
set_option linter.unusedSimpArgs false
set_option linter.unusedSectionVars false
namespace Go.Proofs.YtacmmedhjebfjaaDoor
open Go.RowKit Go.Sy Go.Fac
section
variable {ea : Ear} {has : Int → Prop} {rest : List (Nat × SVal)} [ht : Nonempty (EType ea)]
def kjumps0 : List SVal → Nat → Acc ORes := fun a n => match a with | [.any, .agg [.ro .u32 d, .ro .u32 c, .ro .u8 m, .ro .rel dr, .ro .rel cr, .ro .sym sy], .agg [.int .i64 a, .int .i64 k, .int .i64 s, .int .i64 x]] => .ret ({ v := .bool (.sym (jumpsB c m a.val k.val)), vc := some (0 ≤ a.val ∧ a.val < (m.length : Int) ∧ m.length ≤ 1000000) }) | _ => .fail "jumps0"
theorem argjumps0 (d c m : List Int) (dr cr : List Rel) (sy : List Sm) (a k s x : SI) : (all (subL tAtN none' [] deep [.any, .agg [.ro .u32 d, .ro .u32 c, .ro .u8 m, .ro .rel dr, .ro .rel cr, .ro .sym sy], .agg [.int .i64 a, .int .i64 k, .int .i64 s, .int .i64 x]] [.any, .agg [.ro .u32 d, .ro .u32 c, .ro .u8 m, .ro .rel dr, .ro .rel cr, .ro .sym sy], .agg [.int .i64 (.full a.val), .int .i64 (.full k.val), .int .i64 (.full s.val), .int .i64 (.full x.val)]])) = (
  d = d ∧ c = c ∧ m = m ∧ dr = dr ∧ cr = cr ∧ sy = sy ∧ SI.val a = SI.val a ∧ SI.val k = SI.val k ∧ SI.val s = SI.val s ∧ SI.val x = SI.val x) := by kernel_rfl
theorem runjumps0 (rest : List (Nat × SVal)) (d : List Int) (c : List Int) (m : List Int) (dr : List Rel) (cr : List Rel) (sy : List Sm) (a : Int) (k : Int) (s : Int) (x : Int) : (Tr.sat (plainQ (.bool (.sym (jumpsB c m a k)))) (run (env (G7 ++ rest) [(52, kInstr), (53, kTables), (67, kiJumps)]) [] (bodyOf Tryd.f51) (start [.any, .agg [.ro .u32 d, .ro .u32 c, .ro .u8 m, .ro .rel dr, .ro .rel cr, .ro .sym sy], .agg [.int .i64 (.full a), .int .i64 (.full k), .int .i64 (.full s), .int .i64 (.full x)]] 36) (ends (env (G7 ++ rest) [(52, kInstr), (53, kTables), (67, kiJumps)]) Tryd.f51.results.toList))) = (
  IT (decide (k = (2 : Int))) (true = jumpsB c m a k) (RQ (insB c m (IntKind.wrap IntKind.i64 (a - (1 : Int))) = true → (0 : Int) ≤ a ∧ a < (↑(List.length m) : Int)) ((insB c m (IntKind.wrap IntKind.i64 (a - (1 : Int))) && decide (List.getD m (Int.toNat a) (RT.dflt RT.u8) = (0 : Int)) && isaJumps (insI c m (IntKind.wrap IntKind.i64 (a - (1 : Int)))).op) = jumpsB c m a k))) := by kernel_rfl
set_option maxHeartbeats 4000000 in
theorem cjumps0 : Con ea has (G7 ++ rest) 51 kjumps0 := by
  refine plain_mkB Tryd.func51 36 (con := [(52, kInstr), (53, kTables), (67, kiJumps)]) ⟨cInstr, cTables, ciJumps, trivial⟩ (fun hA hr hv => ?_) (by kernel_rfl) (by kernel_rfl) Tryd.ntmps51
  unfold kjumps0 at hr; split at hr
  · rename_i d c m dr cr sy a k s x
    have := ret_ok hr; subst this
    replace hv := hv _ rfl
    refine ⟨_, [], rfl, rfl, .of (argjumps0 d c m dr cr sy a k s x) (by simp), rfl, (fun W R ρ0 own0 hown => noSums (by kernel_rfl)), .of (runjumps0 rest d c m dr cr sy a.val k.val s.val x.val) ?_⟩
    delta RQ IT
    clear hr
    clear hA
    generalize a.val = a at *
    generalize k.val = k at *
    obtain ⟨v1, v2, v3⟩ := hv
    have w : IntKind.i64.wrap (a - 1) = a - 1 := by rw [IntKind.wrap_i64]; omega
    have d1 : RT.u8.dflt = (0 : Int) := rfl
    rw [w, d1]
    refine ⟨fun h => by rw [jumpsB, if_pos (of_decide_eq_true h)], fun h => ⟨fun _ => ⟨v1, v2⟩, fun _ => by rw [jumpsB, if_neg (of_decide_eq_false h)]⟩⟩
  · cases hr
abbrev kjumps := borN [.drop, .any, .any] kjumps0
theorem cjumps : Con ea has (G7 ++ rest) 51 kjumps := borN_ok cjumps0 _
abbrev kkreal := borN [.box [.ro .obj, .rom .str (.flat (.int .i64) [.int .i64]), .drop, .drop, .drop, .drop, .drop, .drop], .any, .any] kkreal0
theorem ckreal : Con ea has (G7 ++ rest) 41 kkreal := borN_ok ckreal0 _
abbrev nmBox (l : List Ob) : Cont := .cells [.ro .obj l, .map 1, .nilslice, .nilslice, .nilslice, .nilslice, .nilslice, .nilslice]
def HnmI (l : List Ob) (ii : Nat) (i : Nat) : SState := { fr := [(0, .ptr 0 0), (3, .int .i64 (.sym ii 0 1000000)), (29, .ro .obj l), (30, .int .i64 (.full l.length)), (31, .int .i64 (.sym ii 0 1000000)), (44, .ro .sym (obN l ii).syms), (45, .int .i64 (.full (obN l ii).syms.length)), (46, .int .i64 (.sym i 0 1000000))], hp := [(0, some (nmBox l)), (1, some (.gmap .str spT (nmS ii (obN l ii).syms (nmO l ii).2 i).2))], next := 2, sz := 184 }
def XnmI (l : List Ob) (ii : Nat) : SState := { fr := [(0, .ptr 0 0), (29, .ro .obj l), (30, .int .i64 (.full l.length)), (31, .int .i64 (.sym ii 0 1000000))], hp := [(0, some (nmBox l)), (1, some (.gmap .str spT (nmS ii (obN l ii).syms (nmO l ii).2 (obN l ii).syms.length).2))], next := 2, sz := 184 }
def YnmI (l : List Ob) (ii : Nat) : SState := { fr := [(2, .err (nmS ii (obN l ii).syms (nmO l ii).2 (obN l ii).syms.length).1)], hp := [(0, some (nmBox l)), (1, some (.gmap .str spT (nmS ii (obN l ii).syms (nmO l ii).2 (obN l ii).syms.length).2))], next := 2, sz := 184 }
def LnmI (l : List Ob) (ii : Nat) : LSum := ⟨HnmI l ii 0, fun k => .ite (!(nmS ii (obN l ii).syms (nmO l ii).2 (obN l ii).syms.length).1.isErr) (k (.exit 2) (XnmI l ii)) (k .ret (YnmI l ii)), (obN l ii).syms.length ≤ 1000000 ∧ ii ≤ 1000000⟩
theorem bnmI (rest : List (Nat × SVal)) (l : List Ob) (ii : Nat) (i : Nat) : (Tr.sat (rnd2 (envK (G7 ++ rest) [(49, kValidB), (47, kinside), (51, kjumps), (41, kkreal), (42, kksym)] 1) (fun i => (nmS ii (obN l ii).syms (nmO l ii).2 i).1 = .fine) ((obN l ii).syms.length) (HnmI l ii) 2 (!(nmS ii (obN l ii).syms (nmO l ii).2 (obN l ii).syms.length).1.isErr) (XnmI l ii) (YnmI l ii) i) (run (envK (G7 ++ rest) [(49, kValidB), (47, kinside), (51, kjumps), (41, kkreal), (42, kksym)] 1) [] (loopN (loopN (bodyOf Tryd.f39) 0) 0) (HnmI l ii i) .leaf)) = (
  IT (decide ((↑i : Int) < (↑(List.length (obN l ii).syms) : Int))) (RQ ((0 : Int) ≤ (↑i : Int) ∧ (↑i : Int) < (↑(List.length (obN l ii).syms) : Int)) (IT (!(List.getD (obN l ii).syms (Int.toNat (↑i : Int)) (RT.dflt RT.sym)).global || decide ((List.getD (obN l ii).syms (Int.toNat (↑i : Int)) (RT.dflt RT.sym)).in_ = (3 : Int))) (i < List.length (obN l ii).syms ∧ (nmS (↑ii : Int) (obN l ii).syms (nmO l ii).snd (i + (1 : Nat))).fst = FErr.fine ∧ (↑ii : Int) = (↑ii : Int) ∧ l = l ∧ (↑(List.length l) : Int) = (↑(List.length l) : Int) ∧ (↑ii : Int) = (↑ii : Int) ∧ (obN l ii).syms = (obN l ii).syms ∧ (↑(List.length (obN l ii).syms) : Int) = (↑(List.length (obN l ii).syms) : Int) ∧ (↑i : Int) + (1 : Int) = (↑(i + (1 : Nat)) : Int) ∧ ((0 : Int) ≤ (↑(i + (1 : Nat)) : Int) ∧ (↑(i + (1 : Nat)) : Int) ≤ (1000000 : Int)) ∧ l = l ∧ some (nmS (↑ii : Int) (obN l ii).syms (nmO l ii).snd i).snd = some (nmS (↑ii : Int) (obN l ii).syms (nmO l ii).snd (i + (1 : Nat))).snd) (IT (gHas (nmS (↑ii : Int) (obN l ii).syms (nmO l ii).snd i).snd (List.getD (obN l ii).syms (Int.toNat (↑i : Int)) (RT.dflt RT.sym)).name) ((!FErr.isErr (nmS (↑ii : Int) (obN l ii).syms (nmO l ii).snd (List.length (obN l ii).syms)).fst) = false ∧ (nmS (↑ii : Int) (obN l ii).syms (nmO l ii).snd (List.length (obN l ii).syms)).fst = FErr.placed (106 : Int) (↑ii : Int) ∧ FErr.isErr (FErr.bare (106 : Int)) = true ∧ FErr.isPlaced (FErr.bare (106 : Int)) = false ∧ l = l ∧ some (nmS (↑ii : Int) (obN l ii).syms (nmO l ii).snd i).snd = some (nmS (↑ii : Int) (obN l ii).syms (nmO l ii).snd (List.length (obN l ii).syms)).snd) (i < List.length (obN l ii).syms ∧ (nmS (↑ii : Int) (obN l ii).syms (nmO l ii).snd (i + (1 : Nat))).fst = FErr.fine ∧ (↑ii : Int) = (↑ii : Int) ∧ l = l ∧ (↑(List.length l) : Int) = (↑(List.length l) : Int) ∧ (↑ii : Int) = (↑ii : Int) ∧ (obN l ii).syms = (obN l ii).syms ∧ (↑(List.length (obN l ii).syms) : Int) = (↑(List.length (obN l ii).syms) : Int) ∧ (↑i : Int) + (1 : Int) = (↑(i + (1 : Nat)) : Int) ∧ ((0 : Int) ≤ (↑(i + (1 : Nat)) : Int) ∧ (↑(i + (1 : Nat)) : Int) ≤ (1000000 : Int)) ∧ l = l ∧ some (gPut (nmS (↑ii : Int) (obN l ii).syms (nmO l ii).snd i).snd (List.getD (obN l ii).syms (Int.toNat (↑i : Int)) (RT.dflt RT.sym)).name ((↑ii : Int), (↑i : Int))) = some (nmS (↑ii : Int) (obN l ii).syms (nmO l ii).snd (i + (1 : Nat))).snd)))) (Nat.beq (2 : Nat) (2 : Nat) = true ∧ (!FErr.isErr (nmS (↑ii : Int) (obN l ii).syms (nmO l ii).snd (List.length (obN l ii).syms)).fst) = true ∧ l = l ∧ (↑(List.length l) : Int) = (↑(List.length l) : Int) ∧ (↑ii : Int) = (↑ii : Int) ∧ l = l ∧ some (nmS (↑ii : Int) (obN l ii).syms (nmO l ii).snd i).snd = some (nmS (↑ii : Int) (obN l ii).syms (nmO l ii).snd (List.length (obN l ii).syms)).snd)) := by kernel_rfl
set_option maxHeartbeats 4000000 in
theorem lnmI (l : List Ob) (ii : Nat) {W : World} {R own0 : Nat → Prop} {ρ0 : Nat → Option Value} (hown : HownOk (envK (G7 ++ rest) [(49, kValidB), (47, kinside), (51, kjumps), (41, kkreal), (42, kksym)] 1) own0 ρ0) : LOk Tryd.prog (envK (G7 ++ rest) [(49, kValidB), (47, kinside), (51, kjumps), (41, kkreal), (42, kksym)] 1) (ctx ea has) (G7 ++ rest) W R own0 ρ0 (loopN (loopN (bodyOf Tryd.f39) 0) 0) (LnmI l ii) := by
  refine loop2_ok (J := fun i => (nmS ii (obN l ii).syms (nmO l ii).2 i).1 = .fine) (N := (obN l ii).syms.length) (H := HnmI l ii) (X := XnmI l ii) (Y := YnmI l ii) (envK_ok (con := [(49, kValidB), (47, kinside), (51, kjumps), (41, kkreal), (42, kksym)]) ⟨cValidB, cinside, cjumps, ckreal, cksym, trivial⟩) hown (ls := fun i => []) (fun i => noSums (by kernel_rfl)) (fun hm i hi hj => ?_) 0 (fun hm => by first | exact Nat.zero_le _ | omega) (fun hm => rfl)
  rw [bnmI rest l ii i]
  delta RQ IT
  simp only [Int.toNat_natCast, eq_self, true_and, and_true]
  obtain ⟨h1, h2⟩ := hm
  have hs : nmS ii (obN l ii).syms (nmO l ii).2 (i + 1) = nmStep ii i ((obN l ii).syms.getD i RT.sym.dflt) (nmS ii (obN l ii).syms (nmO l ii).2 i).2 := by rw [nmS, if_neg (by rw [hj]; simp [FErr.isErr])]
  have st := fun h hn => nmS_stay ii (obN l ii).syms (nmO l ii).2 (j := i + 1) h (obN l ii).syms.length hn
  have ex : expB ((obN l ii).syms.getD i RT.sym.dflt) = !(!((obN l ii).syms.getD i RT.sym.dflt).global || decide (((obN l ii).syms.getD i RT.sym.dflt).in_ = 3)) := by unfold expB; simp only [Bool.not_or, Bool.not_not]
  refine ⟨fun h => ?_, fun h => ?_⟩
  · have h := of_decide_eq_true h
    have hlt : i < (obN l ii).syms.length := by omega
    refine ⟨by omega, fun _ => ⟨fun g1 => ?_, fun g1 => ⟨fun g2 => ?_, fun g2 => ?_⟩⟩⟩
    · rw [g1] at ex; replace ex := ex.trans (show (!true) = false from rfl)
      rw [nmStep, if_pos ex] at hs
      rw [hs]; exact ⟨hlt, rfl, by omega, by omega, rfl⟩
    · rw [g1] at ex; replace ex := ex.trans (show (!false) = true from rfl)
      rw [nmStep, if_neg (by rw [ex]; simp), if_pos (show glH _ _ = true from g2)] at hs
      have e := st (by rw [hs]; rfl) (by omega)
      rw [e, hs]; exact ⟨rfl, rfl, rfl, rfl, rfl⟩
    · rw [g1] at ex; replace ex := ex.trans (show (!false) = true from rfl)
      rw [nmStep, if_neg (by rw [ex]; simp), if_neg (show ¬ glH _ _ = true by rw [show glH _ _ = false from g2]; simp)] at hs
      rw [hs]; exact ⟨hlt, rfl, by omega, by omega, rfl⟩
  · have h := of_decide_eq_false h
    have : i = (obN l ii).syms.length := by omega
    rw [← this, hj]
    exact ⟨rfl, rfl, rfl⟩
def HnmA (l : List Ob) (i : Nat) : SState := { fr := [(0, .ptr 0 0), (29, .ro .obj l), (30, .int .i64 (.full l.length)), (31, .int .i64 (.sym i 0 1000000))], hp := [(0, some (nmBox l)), (1, some (.gmap .str spT (nmO l i).2))], next := 2, sz := 184 }
def XnmA (l : List Ob) : SState := { fr := [(0, .ptr 0 0)], hp := [(0, some (nmBox l)), (1, some (.gmap .str spT (nmO l l.length).2))], next := 2, sz := 184 }
def YnmA (l : List Ob) : SState := { fr := [(2, .err (nmO l l.length).1)], hp := [(0, some (nmBox l)), (1, some (.gmap .str spT (nmO l l.length).2))], next := 2, sz := 184 }
def LnmA (l : List Ob) : LSum := ⟨HnmA l 0, fun k => .ite (!(nmO l l.length).1.isErr) (k (.exit 0) (XnmA l)) (k .ret (YnmA l)), l.length ≤ 16⟩
theorem bnmA (rest : List (Nat × SVal)) (l : List Ob) (i : Nat) : (Tr.sat (rnd2 (envK (G7 ++ rest) [(49, kValidB), (47, kinside), (51, kjumps), (41, kkreal), (42, kksym)] 1) (fun i => (nmO l i).1 = .fine) (l.length) (HnmA l) 0 (!(nmO l l.length).1.isErr) (XnmA l) (YnmA l) i) (run (envK (G7 ++ rest) [(49, kValidB), (47, kinside), (51, kjumps), (41, kkreal), (42, kksym)] 1) [(9, LnmI l i)] (loopN (bodyOf Tryd.f39) 0) (HnmA l i) .leaf)) = (
  IT (decide ((↑i : Int) < (↑(List.length l) : Int))) (RQ ((0 : Int) ≤ (↑i : Int) ∧ (↑i : Int) < (↑(List.length l) : Int)) (IT (!!FErr.isErr (validBE (List.getD l (Int.toNat (↑i : Int)) (RT.dflt RT.obj)).data (List.getD l (Int.toNat (↑i : Int)) (RT.dflt RT.obj)).code (List.getD l (Int.toNat (↑i : Int)) (RT.dflt RT.obj)).map (List.getD l (Int.toNat (↑i : Int)) (RT.dflt RT.obj)).drels (List.getD l (Int.toNat (↑i : Int)) (RT.dflt RT.obj)).crels (List.getD l (Int.toNat (↑i : Int)) (RT.dflt RT.obj)).syms)) (RQ (FErr.isErr (validBE (List.getD l (Int.toNat (↑i : Int)) (RT.dflt RT.obj)).data (List.getD l (Int.toNat (↑i : Int)) (RT.dflt RT.obj)).code (List.getD l (Int.toNat (↑i : Int)) (RT.dflt RT.obj)).map (List.getD l (Int.toNat (↑i : Int)) (RT.dflt RT.obj)).drels (List.getD l (Int.toNat (↑i : Int)) (RT.dflt RT.obj)).crels (List.getD l (Int.toNat (↑i : Int)) (RT.dflt RT.obj)).syms) = true) ((!FErr.isErr (nmO l (List.length l)).fst) = false ∧ insE (validBE (List.getD l (Int.toNat (↑i : Int)) (RT.dflt RT.obj)).data (List.getD l (Int.toNat (↑i : Int)) (RT.dflt RT.obj)).code (List.getD l (Int.toNat (↑i : Int)) (RT.dflt RT.obj)).map (List.getD l (Int.toNat (↑i : Int)) (RT.dflt RT.obj)).drels (List.getD l (Int.toNat (↑i : Int)) (RT.dflt RT.obj)).crels (List.getD l (Int.toNat (↑i : Int)) (RT.dflt RT.obj)).syms) (↑i : Int) = (nmO l (List.length l)).fst ∧ l = l ∧ some (nmO l i).snd = some (nmO l (List.length l)).snd)) (RQ ((List.length (obN l i).syms ≤ (1000000 : Nat) ∧ i ≤ (1000000 : Nat)) ∧ (↑i : Int) = (↑i : Int) ∧ l = l ∧ (↑(List.length l) : Int) = (↑(List.length l) : Int) ∧ (↑i : Int) = (↑i : Int) ∧ (List.getD l (Int.toNat (↑i : Int)) (RT.dflt RT.obj)).syms = (obN l i).syms ∧ (↑(List.length (List.getD l (Int.toNat (↑i : Int)) (RT.dflt RT.obj)).syms) : Int) = (↑(List.length (obN l i).syms) : Int) ∧ (0 : Int) = (↑(0 : Nat) : Int) ∧ l = l ∧ some (nmO l i).snd = some (nmS (↑i : Int) (obN l i).syms (nmO l i).snd (0 : Nat)).snd) (IT (!FErr.isErr (nmS (↑i : Int) (obN l i).syms (nmO l i).snd (List.length (obN l i).syms)).fst) (i < List.length l ∧ (nmO l (i + (1 : Nat))).fst = FErr.fine ∧ l = l ∧ (↑(List.length l) : Int) = (↑(List.length l) : Int) ∧ (↑i : Int) + (1 : Int) = (↑(i + (1 : Nat)) : Int) ∧ ((0 : Int) ≤ (↑(i + (1 : Nat)) : Int) ∧ (↑(i + (1 : Nat)) : Int) ≤ (1000000 : Int)) ∧ l = l ∧ some (nmS (↑i : Int) (obN l i).syms (nmO l i).snd (List.length (obN l i).syms)).snd = some (nmO l (i + (1 : Nat))).snd) ((!FErr.isErr (nmO l (List.length l)).fst) = false ∧ (nmS (↑i : Int) (obN l i).syms (nmO l i).snd (List.length (obN l i).syms)).fst = (nmO l (List.length l)).fst ∧ l = l ∧ some (nmS (↑i : Int) (obN l i).syms (nmO l i).snd (List.length (obN l i).syms)).snd = some (nmO l (List.length l)).snd))))) (Nat.beq (0 : Nat) (0 : Nat) = true ∧ (!FErr.isErr (nmO l (List.length l)).fst) = true ∧ l = l ∧ some (nmO l i).snd = some (nmO l (List.length l)).snd)) := by kernel_rfl
set_option maxHeartbeats 4000000 in
theorem lnmA (l : List Ob) {W : World} {R own0 : Nat → Prop} {ρ0 : Nat → Option Value} (hown : HownOk (envK (G7 ++ rest) [(49, kValidB), (47, kinside), (51, kjumps), (41, kkreal), (42, kksym)] 1) own0 ρ0) : LOk Tryd.prog (envK (G7 ++ rest) [(49, kValidB), (47, kinside), (51, kjumps), (41, kkreal), (42, kksym)] 1) (ctx ea has) (G7 ++ rest) W R own0 ρ0 (loopN (bodyOf Tryd.f39) 0) (LnmA l) := by
  refine loop2_ok (J := fun i => (nmO l i).1 = .fine) (N := l.length) (H := HnmA l) (X := XnmA l) (Y := YnmA l) (envK_ok (con := [(49, kValidB), (47, kinside), (51, kjumps), (41, kkreal), (42, kksym)]) ⟨cValidB, cinside, cjumps, ckreal, cksym, trivial⟩) hown (ls := fun i => [(9, LnmI l i)]) (fun i => hl1 (by kernel_rfl) (by kernel_rfl) (lnmI l i hown)) (fun hm i hi hj => ?_) 0 (fun hm => by first | exact Nat.zero_le _ | omega) (fun hm => rfl)
  rw [bnmA rest l i]
  delta RQ IT
  simp only [Int.toNat_natCast, eq_self, true_and, and_true]
  have hs : nmO l (i + 1) = _ := nmO.eq_2 l i
  rw [if_neg (by rw [hj]; simp [FErr.isErr])] at hs
  have st := fun h hn => nmO_stay l (j := i + 1) h l.length hn
  have eV : validBE (l.getD i RT.obj.dflt).data (l.getD i RT.obj.dflt).code (l.getD i RT.obj.dflt).map (l.getD i RT.obj.dflt).drels (l.getD i RT.obj.dflt).crels (l.getD i RT.obj.dflt).syms = vBE (obN l i) := rfl
  rw [eV]
  have hsz : (vBE (obN l i)).isErr = false → (obN l i).syms.length ≤ 1000000 := fun h => by have := (vOb h).syms; omega
  have np : ∀ e : FErr, e.isErr = true → (insE e i).isErr = true := fun e h => by cases e <;> simp [insE, FErr.isErr] at h ⊢
  refine ⟨fun h => ?_, fun h => ?_⟩
  · have h := of_decide_eq_true h
    have hlt : i < l.length := by omega
    refine ⟨by omega, fun _ => ⟨fun g1 => ?_, fun g1 => ?_⟩⟩
    · have g1 : (vBE (obN l i)).isErr = true := by simpa using g1
      rw [if_pos g1] at hs
      have e := st (by rw [hs]; exact np _ g1) (by omega)
      rw [e, hs]
      refine ⟨g1, fun _ => ⟨by rw [np _ g1]; rfl, rfl, rfl⟩⟩
    · have g1 : (vBE (obN l i)).isErr = false := by simpa using g1
      rw [if_neg (by rw [g1]; simp)] at hs
      have h1 := hsz g1
      refine ⟨⟨⟨h1, by omega⟩, rfl, rfl⟩, fun _ => ⟨fun g2 => ?_, fun g2 => ?_⟩⟩
      · have g2 : (nmS i (obN l i).syms (nmO l i).2 (obN l i).syms.length).1.isErr = false := by simpa using g2
        rw [hs]
        exact ⟨hlt, fine_of g2, by omega, by omega, rfl⟩
      · have g2 : (nmS i (obN l i).syms (nmO l i).2 (obN l i).syms.length).1.isErr = true := by simpa using g2
        have e := st (by rw [hs]; exact g2) (by omega)
        rw [e, hs, g2]
        exact ⟨rfl, rfl, rfl⟩
  · have h := of_decide_eq_false h
    have : i = l.length := by omega
    rw [← this, hj]
    exact ⟨rfl, rfl, rfl⟩
def HnmJ (l : List Ob) (g : Glb) (ii : Nat) (i : Nat) : SState := { fr := [(0, .ptr 0 0), (10, .int .i64 (.sym ii 0 1000000)), (89, .ro .obj l), (90, .int .i64 (.full l.length)), (91, .int .i64 (.sym ii 0 1000000)), (97, .ro .sym (obN l ii).syms), (98, .int .i64 (.full (obN l ii).syms.length)), (99, .int .i64 (.sym i 0 1000000))], hp := [(0, some (nmBox l)), (1, some (.gmap .str spT g))], next := 2, sz := 184 }
def XnmJ (l : List Ob) (g : Glb) (ii : Nat) : SState := { fr := [(0, .ptr 0 0), (89, .ro .obj l), (90, .int .i64 (.full l.length)), (91, .int .i64 (.sym ii 0 1000000))], hp := [(0, some (nmBox l)), (1, some (.gmap .str spT g))], next := 2, sz := 184 }
def YnmJ (l : List Ob) (g : Glb) (ii : Nat) : SState := { fr := [(2, .err (.placed 107 ii))], hp := [(0, some (nmBox l)), (1, some (.gmap .str spT g))], next := 2, sz := 184 }
def LnmJ (l : List Ob) (g : Glb) (ii : Nat) : LSum := ⟨HnmJ l g ii 0, fun k => .ite (decide (idxM (noneB l g ii) (obN l ii).syms.length = (obN l ii).syms.length)) (k (.exit 6) (XnmJ l g ii)) (k .ret (YnmJ l g ii)), (obN l ii).syms.length ≤ 1000000 ∧ ii ≤ 1000000⟩
theorem bnmJ (rest : List (Nat × SVal)) (l : List Ob) (g : Glb) (ii : Nat) (i : Nat) : (Tr.sat (rnd2 (envK (G7 ++ rest) [(49, kValidB), (47, kinside), (51, kjumps), (41, kkreal), (42, kksym)] 1) (fun i => idxM (noneB l g ii) i = i) ((obN l ii).syms.length) (HnmJ l g ii) 6 (decide (idxM (noneB l g ii) (obN l ii).syms.length = (obN l ii).syms.length)) (XnmJ l g ii) (YnmJ l g ii) i) (run (envK (G7 ++ rest) [(49, kValidB), (47, kinside), (51, kjumps), (41, kkreal), (42, kksym)] 1) [] (loopN (loopN (bodyOf Tryd.f39) 1) 0) (HnmJ l g ii i) .leaf)) = (
  IT (decide ((↑i : Int) < (↑(List.length (obN l ii).syms) : Int))) (RQ ((0 : Int) ≤ (↑i : Int) ∧ (↑i : Int) < (↑(List.length (obN l ii).syms) : Int)) (IT (decide ((List.getD (obN l ii).syms (Int.toNat (↑i : Int)) (RT.dflt RT.sym)).in_ = (3 : Int)) && !gHas g (List.getD (obN l ii).syms (Int.toNat (↑i : Int)) (RT.dflt RT.sym)).name) (decide (idxM (noneB l g ii) (List.length (obN l ii).syms) = List.length (obN l ii).syms) = false ∧ FErr.placed (107 : Int) (↑ii : Int) = FErr.placed (107 : Int) (↑ii : Int) ∧ FErr.isErr (FErr.bare (107 : Int)) = true ∧ FErr.isPlaced (FErr.bare (107 : Int)) = false ∧ l = l ∧ some g = some g) (i < List.length (obN l ii).syms ∧ idxM (noneB l g ii) (i + (1 : Nat)) = i + (1 : Nat) ∧ (↑ii : Int) = (↑ii : Int) ∧ l = l ∧ (↑(List.length l) : Int) = (↑(List.length l) : Int) ∧ (↑ii : Int) = (↑ii : Int) ∧ (obN l ii).syms = (obN l ii).syms ∧ (↑(List.length (obN l ii).syms) : Int) = (↑(List.length (obN l ii).syms) : Int) ∧ (↑i : Int) + (1 : Int) = (↑(i + (1 : Nat)) : Int) ∧ ((0 : Int) ≤ (↑(i + (1 : Nat)) : Int) ∧ (↑(i + (1 : Nat)) : Int) ≤ (1000000 : Int)) ∧ l = l ∧ some g = some g))) (Nat.beq (6 : Nat) (6 : Nat) = true ∧ decide (idxM (noneB l g ii) (List.length (obN l ii).syms) = List.length (obN l ii).syms) = true ∧ l = l ∧ (↑(List.length l) : Int) = (↑(List.length l) : Int) ∧ (↑ii : Int) = (↑ii : Int) ∧ l = l ∧ some g = some g)) := by kernel_rfl
set_option maxHeartbeats 4000000 in
theorem lnmJ (l : List Ob) (g : Glb) (ii : Nat) {W : World} {R own0 : Nat → Prop} {ρ0 : Nat → Option Value} (hown : HownOk (envK (G7 ++ rest) [(49, kValidB), (47, kinside), (51, kjumps), (41, kkreal), (42, kksym)] 1) own0 ρ0) : LOk Tryd.prog (envK (G7 ++ rest) [(49, kValidB), (47, kinside), (51, kjumps), (41, kkreal), (42, kksym)] 1) (ctx ea has) (G7 ++ rest) W R own0 ρ0 (loopN (loopN (bodyOf Tryd.f39) 1) 0) (LnmJ l g ii) := by
  refine loop2_ok (J := fun i => idxM (noneB l g ii) i = i) (N := (obN l ii).syms.length) (H := HnmJ l g ii) (X := XnmJ l g ii) (Y := YnmJ l g ii) (envK_ok (con := [(49, kValidB), (47, kinside), (51, kjumps), (41, kkreal), (42, kksym)]) ⟨cValidB, cinside, cjumps, ckreal, cksym, trivial⟩) hown (ls := fun i => []) (fun i => noSums (by kernel_rfl)) (fun hm i hi hj => ?_) 0 (fun hm => by first | exact Nat.zero_le _ | omega) (fun hm => rfl)
  rw [bnmJ rest l g ii i]
  delta RQ IT
  simp only [Int.toNat_natCast, eq_self, true_and, and_true]
  refine ⟨fun h => ?_, fun h => ?_⟩
  · have h := of_decide_eq_true h
    have hlt : i < (obN l ii).syms.length := by omega
    refine ⟨by omega, fun _ => ⟨fun g1 => ?_, fun g1 => ?_⟩⟩
    · have e := idxM_hit (n := (obN l ii).syms.length) hj (show noneB l g ii i = true from g1) hlt
      exact ⟨by rw [e]; exact decide_eq_false (by omega), rfl, rfl⟩
    · exact ⟨hlt, idxM_step hj (show noneB l g ii i = false from g1), by omega, by omega⟩
  · have h := of_decide_eq_false h
    have : i = (obN l ii).syms.length := by omega
    exact ⟨rfl, by rw [← this]; exact decide_eq_true hj⟩
def HnmB (l : List Ob) (g : Glb) (i : Nat) : SState := { fr := [(0, .ptr 0 0), (89, .ro .obj l), (90, .int .i64 (.full l.length)), (91, .int .i64 (.sym i 0 1000000))], hp := [(0, some (nmBox l)), (1, some (.gmap .str spT g))], next := 2, sz := 184 }
def XnmB (l : List Ob) (g : Glb) : SState := { fr := [(0, .ptr 0 0)], hp := [(0, some (nmBox l)), (1, some (.gmap .str spT g))], next := 2, sz := 184 }
def YnmB (l : List Ob) (g : Glb) : SState := { fr := [(2, .err (.placed 107 (idxM (noneO l g) l.length)))], hp := [(0, some (nmBox l)), (1, some (.gmap .str spT g))], next := 2, sz := 184 }
def LnmB (l : List Ob) (g : Glb) : LSum := ⟨HnmB l g 0, fun k => .ite (decide (idxM (noneO l g) l.length = l.length)) (k (.exit 4) (XnmB l g)) (k .ret (YnmB l g)), l.length ≤ 16 ∧ ∀ i, i < l.length → (obN l i).syms.length ≤ 1000000⟩
theorem bnmB (rest : List (Nat × SVal)) (l : List Ob) (g : Glb) (i : Nat) : (Tr.sat (rnd2 (envK (G7 ++ rest) [(49, kValidB), (47, kinside), (51, kjumps), (41, kkreal), (42, kksym)] 1) (fun i => idxM (noneO l g) i = i) (l.length) (HnmB l g) 4 (decide (idxM (noneO l g) l.length = l.length)) (XnmB l g) (YnmB l g) i) (run (envK (G7 ++ rest) [(49, kValidB), (47, kinside), (51, kjumps), (41, kkreal), (42, kksym)] 1) [(22, LnmJ l g i)] (loopN (bodyOf Tryd.f39) 1) (HnmB l g i) .leaf)) = (
  IT (decide ((↑i : Int) < (↑(List.length l) : Int))) (RQ ((0 : Int) ≤ (↑i : Int) ∧ (↑i : Int) < (↑(List.length l) : Int)) (RQ ((List.length (obN l i).syms ≤ (1000000 : Nat) ∧ i ≤ (1000000 : Nat)) ∧ (↑i : Int) = (↑i : Int) ∧ l = l ∧ (↑(List.length l) : Int) = (↑(List.length l) : Int) ∧ (↑i : Int) = (↑i : Int) ∧ (List.getD l (Int.toNat (↑i : Int)) (RT.dflt RT.obj)).syms = (obN l i).syms ∧ (↑(List.length (List.getD l (Int.toNat (↑i : Int)) (RT.dflt RT.obj)).syms) : Int) = (↑(List.length (obN l i).syms) : Int) ∧ (0 : Int) = (↑(0 : Nat) : Int) ∧ l = l ∧ some g = some g) (IT (decide (idxM (noneB l g i) (List.length (obN l i).syms) = List.length (obN l i).syms)) (i < List.length l ∧ idxM (noneO l g) (i + (1 : Nat)) = i + (1 : Nat) ∧ l = l ∧ (↑(List.length l) : Int) = (↑(List.length l) : Int) ∧ (↑i : Int) + (1 : Int) = (↑(i + (1 : Nat)) : Int) ∧ ((0 : Int) ≤ (↑(i + (1 : Nat)) : Int) ∧ (↑(i + (1 : Nat)) : Int) ≤ (1000000 : Int)) ∧ l = l ∧ some g = some g) (decide (idxM (noneO l g) (List.length l) = List.length l) = false ∧ FErr.placed (107 : Int) (↑i : Int) = FErr.placed (107 : Int) (↑(idxM (noneO l g) (List.length l)) : Int) ∧ l = l ∧ some g = some g)))) (Nat.beq (4 : Nat) (4 : Nat) = true ∧ decide (idxM (noneO l g) (List.length l) = List.length l) = true ∧ l = l ∧ some g = some g)) := by kernel_rfl
set_option maxHeartbeats 4000000 in
theorem lnmB (l : List Ob) (g : Glb) {W : World} {R own0 : Nat → Prop} {ρ0 : Nat → Option Value} (hown : HownOk (envK (G7 ++ rest) [(49, kValidB), (47, kinside), (51, kjumps), (41, kkreal), (42, kksym)] 1) own0 ρ0) : LOk Tryd.prog (envK (G7 ++ rest) [(49, kValidB), (47, kinside), (51, kjumps), (41, kkreal), (42, kksym)] 1) (ctx ea has) (G7 ++ rest) W R own0 ρ0 (loopN (bodyOf Tryd.f39) 1) (LnmB l g) := by
  refine loop2_ok (J := fun i => idxM (noneO l g) i = i) (N := l.length) (H := HnmB l g) (X := XnmB l g) (Y := YnmB l g) (envK_ok (con := [(49, kValidB), (47, kinside), (51, kjumps), (41, kkreal), (42, kksym)]) ⟨cValidB, cinside, cjumps, ckreal, cksym, trivial⟩) hown (ls := fun i => [(22, LnmJ l g i)]) (fun i => hl1 (by kernel_rfl) (by kernel_rfl) (lnmJ l g i hown)) (fun hm i hi hj => ?_) 0 (fun hm => by first | exact Nat.zero_le _ | omega) (fun hm => rfl)
  rw [bnmB rest l g i]
  delta RQ IT
  simp only [Int.toNat_natCast, eq_self, true_and, and_true]
  refine ⟨fun h => ?_, fun h => ?_⟩
  · have h := of_decide_eq_true h
    have hlt : i < l.length := by omega
    have hi : i ≤ 999999 := by have := hm.1; omega
    refine ⟨by omega, fun _ => ⟨⟨⟨hm.2 i hlt, by omega⟩, rfl⟩, fun _ => ⟨fun g1 => ?_, fun g1 => ?_⟩⟩⟩
    · have g1 := of_decide_eq_true g1
      exact ⟨hlt, idxM_step hj (by unfold noneO; rw [g1]; simp), by omega, by omega⟩
    · have g1 := of_decide_eq_false g1
      have e := idxM_hit (n := l.length) hj (show noneO l g i = true by unfold noneO; simpa using g1) hlt
      rw [e]
      exact ⟨by simp; omega, rfl⟩
  · have h := of_decide_eq_false h
    have : i = l.length := by omega
    exact ⟨rfl, by rw [← this]; exact decide_eq_true hj⟩
def HnmK (l : List Ob) (g : Glb) (ii : Nat) (i : Nat) : SState := { fr := [(0, .ptr 0 0), (16, .int .i64 (.sym ii 0 1000000)), (17, .ptr 2 0), (130, .ro .obj l), (131, .int .i64 (.full l.length)), (132, .int .i64 (.sym ii 0 1000000)), (138, .ro .rel (obN l ii).crels), (139, .int .i64 (.full (obN l ii).crels.length)), (140, .int .i64 (.sym i 0 1000000))], hp := [(0, some (nmBox l)), (1, some (.gmap .str spT g)), (2, some (.cells [.ro .u32 (obN l ii).data, .ro .u32 (obN l ii).code, .ro .u8 (obN l ii).map, .ro .rel (obN l ii).drels, .ro .rel (obN l ii).crels, .ro .sym (obN l ii).syms]))], next := 3, sz := 184 }
def XnmK (l : List Ob) (g : Glb) (ii : Nat) : SState := { fr := [(0, .ptr 0 0), (130, .ro .obj l), (131, .int .i64 (.full l.length)), (132, .int .i64 (.sym ii 0 1000000))], hp := [(0, some (nmBox l)), (1, some (.gmap .str spT g))], next := 2, sz := 184 }
def YnmK (l : List Ob) (g : Glb) (ii : Nat) : SState := { fr := [(2, .err (.placed 102 ii))], hp := [(0, some (nmBox l)), (1, some (.gmap .str spT g))], next := 2, sz := 184 }
def LnmK (l : List Ob) (g : Glb) (ii : Nat) : LSum := ⟨HnmK l g ii 0, fun k => .ite (decide (idxM (toB l g ii) (obN l ii).crels.length = (obN l ii).crels.length)) (k (.exit 10) (XnmK l g ii)) (k .ret (YnmK l g ii)), NmG l g ∧ ii < l.length⟩
theorem bnmK (rest : List (Nat × SVal)) (l : List Ob) (g : Glb) (ii : Nat) (i : Nat) : (Tr.sat (rnd2 (envK (G7 ++ rest) [(49, kValidB), (47, kinside), (51, kjumps), (41, kkreal), (42, kksym)] 1) (fun i => idxM (toB l g ii) i = i) ((obN l ii).crels.length) (HnmK l g ii) 10 (decide (idxM (toB l g ii) (obN l ii).crels.length = (obN l ii).crels.length)) (XnmK l g ii) (YnmK l g ii) i) (run (envK (G7 ++ rest) [(49, kValidB), (47, kinside), (51, kjumps), (41, kkreal), (42, kksym)] 1) [] (loopN (loopN (bodyOf Tryd.f39) 2) 0) (HnmK l g ii i) .leaf)) = (
  IT (decide ((↑i : Int) < (↑(List.length (obN l ii).crels) : Int))) (RQ ((0 : Int) ≤ (↑i : Int) ∧ (↑i : Int) < (↑(List.length (obN l ii).crels) : Int)) (RQ ((0 : Int) ≤ (List.getD (obN l ii).crels (Int.toNat (↑i : Int)) (RT.dflt RT.rel)).at_ ∧ (List.getD (obN l ii).crels (Int.toNat (↑i : Int)) (RT.dflt RT.rel)).at_ < (↑(List.length (obN l ii).map) : Int) ∧ List.length (obN l ii).map ≤ (1000000 : Nat)) (RQ (jumpsB (obN l ii).code (obN l ii).map (List.getD (obN l ii).crels (Int.toNat (↑i : Int)) (RT.dflt RT.rel)).at_ (List.getD (obN l ii).crels (Int.toNat (↑i : Int)) (RT.dflt RT.rel)).kind = true → (0 : Int) ≤ (↑ii : Int) ∧ (↑ii : Int) < (↑(List.length l) : Int) ∧ (0 : Int) ≤ (List.getD (obN l ii).crels (Int.toNat (↑i : Int)) (RT.dflt RT.rel)).sym ∧ (List.getD (obN l ii).crels (Int.toNat (↑i : Int)) (RT.dflt RT.rel)).sym < (↑(List.length (List.getD l (Int.toNat (↑ii : Int)) (RT.dflt RT.obj)).syms) : Int)) (RQ (jumpsB (obN l ii).code (obN l ii).map (List.getD (obN l ii).crels (Int.toNat (↑i : Int)) (RT.dflt RT.rel)).at_ (List.getD (obN l ii).crels (Int.toNat (↑i : Int)) (RT.dflt RT.rel)).kind = true → (0 : Int) ≤ (realM l g (↑ii : Int) (List.getD (obN l ii).crels (Int.toNat (↑i : Int)) (RT.dflt RT.rel)).sym).fst ∧ (realM l g (↑ii : Int) (List.getD (obN l ii).crels (Int.toNat (↑i : Int)) (RT.dflt RT.rel)).sym).fst < (↑(List.length l) : Int) ∧ (0 : Int) ≤ (realM l g (↑ii : Int) (List.getD (obN l ii).crels (Int.toNat (↑i : Int)) (RT.dflt RT.rel)).sym).snd ∧ (realM l g (↑ii : Int) (List.getD (obN l ii).crels (Int.toNat (↑i : Int)) (RT.dflt RT.rel)).sym).snd < (↑(List.length (List.getD l (Int.toNat (realM l g (↑ii : Int) (List.getD (obN l ii).crels (Int.toNat (↑i : Int)) (RT.dflt RT.rel)).sym).fst) (RT.dflt RT.obj)).syms) : Int)) (IT (jumpsB (obN l ii).code (obN l ii).map (List.getD (obN l ii).crels (Int.toNat (↑i : Int)) (RT.dflt RT.rel)).at_ (List.getD (obN l ii).crels (Int.toNat (↑i : Int)) (RT.dflt RT.rel)).kind && decide ((symAt l (realM l g (↑ii : Int) (List.getD (obN l ii).crels (Int.toNat (↑i : Int)) (RT.dflt RT.rel)).sym).fst (realM l g (↑ii : Int) (List.getD (obN l ii).crels (Int.toNat (↑i : Int)) (RT.dflt RT.rel)).sym).snd).in_ = (1 : Int))) (decide (idxM (toB l g ii) (List.length (obN l ii).crels) = List.length (obN l ii).crels) = false ∧ FErr.placed (102 : Int) (↑ii : Int) = FErr.placed (102 : Int) (↑ii : Int) ∧ FErr.isErr (FErr.bare (102 : Int)) = true ∧ FErr.isPlaced (FErr.bare (102 : Int)) = false ∧ l = l ∧ some g = some g) (i < List.length (obN l ii).crels ∧ idxM (toB l g ii) (i + (1 : Nat)) = i + (1 : Nat) ∧ (↑ii : Int) = (↑ii : Int) ∧ l = l ∧ (↑(List.length l) : Int) = (↑(List.length l) : Int) ∧ (↑ii : Int) = (↑ii : Int) ∧ (obN l ii).crels = (obN l ii).crels ∧ (↑(List.length (obN l ii).crels) : Int) = (↑(List.length (obN l ii).crels) : Int) ∧ (↑i : Int) + (1 : Int) = (↑(i + (1 : Nat)) : Int) ∧ ((0 : Int) ≤ (↑(i + (1 : Nat)) : Int) ∧ (↑(i + (1 : Nat)) : Int) ≤ (1000000 : Int)) ∧ l = l ∧ some g = some g ∧ (obN l ii).data = (obN l ii).data ∧ (obN l ii).code = (obN l ii).code ∧ (obN l ii).map = (obN l ii).map ∧ (obN l ii).drels = (obN l ii).drels ∧ (obN l ii).crels = (obN l ii).crels ∧ (obN l ii).syms = (obN l ii).syms)))))) (Nat.beq (10 : Nat) (10 : Nat) = true ∧ decide (idxM (toB l g ii) (List.length (obN l ii).crels) = List.length (obN l ii).crels) = true ∧ l = l ∧ (↑(List.length l) : Int) = (↑(List.length l) : Int) ∧ (↑ii : Int) = (↑ii : Int) ∧ l = l ∧ some g = some g)) := by kernel_rfl
set_option maxHeartbeats 4000000 in
theorem lnmK (l : List Ob) (g : Glb) (ii : Nat) {W : World} {R own0 : Nat → Prop} {ρ0 : Nat → Option Value} (hown : HownOk (envK (G7 ++ rest) [(49, kValidB), (47, kinside), (51, kjumps), (41, kkreal), (42, kksym)] 1) own0 ρ0) : LOk Tryd.prog (envK (G7 ++ rest) [(49, kValidB), (47, kinside), (51, kjumps), (41, kkreal), (42, kksym)] 1) (ctx ea has) (G7 ++ rest) W R own0 ρ0 (loopN (loopN (bodyOf Tryd.f39) 2) 0) (LnmK l g ii) := by
  refine loop2_ok (J := fun i => idxM (toB l g ii) i = i) (N := (obN l ii).crels.length) (H := HnmK l g ii) (X := XnmK l g ii) (Y := YnmK l g ii) (envK_ok (con := [(49, kValidB), (47, kinside), (51, kjumps), (41, kkreal), (42, kksym)]) ⟨cValidB, cinside, cjumps, ckreal, cksym, trivial⟩) hown (ls := fun i => []) (fun i => noSums (by kernel_rfl)) (fun hm i hi hj => ?_) 0 (fun hm => by first | exact Nat.zero_le _ | omega) (fun hm => rfl)
  rw [bnmK rest l g ii i]
  delta RQ IT
  simp only [Int.toNat_natCast, eq_self, true_and, and_true]
  obtain ⟨G, hii⟩ := hm
  have V := G.val ii hii
  have hb : toB l g ii i = _ := toB.eq_1 l g ii i
  refine ⟨fun h => ?_, fun h => ?_⟩
  · have h := of_decide_eq_true h
    have hlt : i < (obN l ii).crels.length := by omega
    obtain ⟨c1, c2, c3, c4, _⟩ := V.crel hlt _ rfl
    obtain ⟨o, x, e, ho, hx, _⟩ := G.real hii c3 c4
    have hm := V.map
    have hc := V.code
    have hr := V.crels
    refine ⟨by omega, fun _ => ⟨⟨c1, by omega, by omega⟩, fun _ => ⟨fun _ => ⟨by omega, by omega, c3, c4⟩, fun _ => ⟨fun _ => ?_, fun _ => ⟨fun g1 => ?_, fun g1 => ?_⟩⟩⟩⟩⟩
    · rw [e]; exact ⟨by omega, by omega, by omega, by show ((x : Nat) : Int) < ((obN l ((o : Nat) : Int).toNat).syms.length : Nat); rw [Int.toNat_natCast]; omega⟩
    · have e := idxM_hit (n := (obN l ii).crels.length) hj (show toB l g ii i = true from g1) hlt
      exact ⟨by rw [e]; exact decide_eq_false (by omega), rfl, rfl⟩
    · exact ⟨hlt, idxM_step hj (show toB l g ii i = false from g1), by omega, by omega⟩
  · have h := of_decide_eq_false h
    have : i = (obN l ii).crels.length := by omega
    exact ⟨rfl, by rw [← this]; exact decide_eq_true hj⟩
def HnmC (l : List Ob) (g : Glb) (i : Nat) : SState := { fr := [(0, .ptr 0 0), (130, .ro .obj l), (131, .int .i64 (.full l.length)), (132, .int .i64 (.sym i 0 1000000))], hp := [(0, some (nmBox l)), (1, some (.gmap .str spT g))], next := 2, sz := 184 }
def XnmC (l : List Ob) (g : Glb) : SState := { fr := [(0, .ptr 0 0)], hp := [(0, some (nmBox l)), (1, some (.gmap .str spT g))], next := 2, sz := 184 }
def YnmC (l : List Ob) (g : Glb) : SState := { fr := [(2, .err (.placed 102 (idxM (toO l g) l.length)))], hp := [(0, some (nmBox l)), (1, some (.gmap .str spT g))], next := 2, sz := 184 }
def LnmC (l : List Ob) (g : Glb) : LSum := ⟨HnmC l g 0, fun k => .ite (decide (idxM (toO l g) l.length = l.length)) (k (.exit 8) (XnmC l g)) (k .ret (YnmC l g)), NmG l g⟩
theorem bnmC (rest : List (Nat × SVal)) (l : List Ob) (g : Glb) (i : Nat) : (Tr.sat (rnd2 (envK (G7 ++ rest) [(49, kValidB), (47, kinside), (51, kjumps), (41, kkreal), (42, kksym)] 1) (fun i => idxM (toO l g) i = i) (l.length) (HnmC l g) 8 (decide (idxM (toO l g) l.length = l.length)) (XnmC l g) (YnmC l g) i) (run (envK (G7 ++ rest) [(49, kValidB), (47, kinside), (51, kjumps), (41, kkreal), (42, kksym)] 1) [(33, LnmK l g i)] (loopN (bodyOf Tryd.f39) 2) (HnmC l g i) .leaf)) = (
  IT (decide ((↑i : Int) < (↑(List.length l) : Int))) (RQ ((0 : Int) ≤ (↑i : Int) ∧ (↑i : Int) < (↑(List.length l) : Int)) (RQ ((NmG l g ∧ i < List.length l) ∧ (↑i : Int) = (↑i : Int) ∧ l = l ∧ (↑(List.length l) : Int) = (↑(List.length l) : Int) ∧ (↑i : Int) = (↑i : Int) ∧ (List.getD l (Int.toNat (↑i : Int)) (RT.dflt RT.obj)).crels = (obN l i).crels ∧ (↑(List.length (List.getD l (Int.toNat (↑i : Int)) (RT.dflt RT.obj)).crels) : Int) = (↑(List.length (obN l i).crels) : Int) ∧ (0 : Int) = (↑(0 : Nat) : Int) ∧ l = l ∧ some g = some g ∧ (List.getD l (Int.toNat (↑i : Int)) (RT.dflt RT.obj)).data = (obN l i).data ∧ (List.getD l (Int.toNat (↑i : Int)) (RT.dflt RT.obj)).code = (obN l i).code ∧ (List.getD l (Int.toNat (↑i : Int)) (RT.dflt RT.obj)).map = (obN l i).map ∧ (List.getD l (Int.toNat (↑i : Int)) (RT.dflt RT.obj)).drels = (obN l i).drels ∧ (List.getD l (Int.toNat (↑i : Int)) (RT.dflt RT.obj)).crels = (obN l i).crels ∧ (List.getD l (Int.toNat (↑i : Int)) (RT.dflt RT.obj)).syms = (obN l i).syms) (IT (decide (idxM (toB l g i) (List.length (obN l i).crels) = List.length (obN l i).crels)) (i < List.length l ∧ idxM (toO l g) (i + (1 : Nat)) = i + (1 : Nat) ∧ l = l ∧ (↑(List.length l) : Int) = (↑(List.length l) : Int) ∧ (↑i : Int) + (1 : Int) = (↑(i + (1 : Nat)) : Int) ∧ ((0 : Int) ≤ (↑(i + (1 : Nat)) : Int) ∧ (↑(i + (1 : Nat)) : Int) ≤ (1000000 : Int)) ∧ l = l ∧ some g = some g) (decide (idxM (toO l g) (List.length l) = List.length l) = false ∧ FErr.placed (102 : Int) (↑i : Int) = FErr.placed (102 : Int) (↑(idxM (toO l g) (List.length l)) : Int) ∧ l = l ∧ some g = some g)))) (Nat.beq (8 : Nat) (8 : Nat) = true ∧ decide (idxM (toO l g) (List.length l) = List.length l) = true ∧ l = l ∧ some g = some g)) := by kernel_rfl
set_option maxHeartbeats 4000000 in
theorem lnmC (l : List Ob) (g : Glb) {W : World} {R own0 : Nat → Prop} {ρ0 : Nat → Option Value} (hown : HownOk (envK (G7 ++ rest) [(49, kValidB), (47, kinside), (51, kjumps), (41, kkreal), (42, kksym)] 1) own0 ρ0) : LOk Tryd.prog (envK (G7 ++ rest) [(49, kValidB), (47, kinside), (51, kjumps), (41, kkreal), (42, kksym)] 1) (ctx ea has) (G7 ++ rest) W R own0 ρ0 (loopN (bodyOf Tryd.f39) 2) (LnmC l g) := by
  refine loop2_ok (J := fun i => idxM (toO l g) i = i) (N := l.length) (H := HnmC l g) (X := XnmC l g) (Y := YnmC l g) (envK_ok (con := [(49, kValidB), (47, kinside), (51, kjumps), (41, kkreal), (42, kksym)]) ⟨cValidB, cinside, cjumps, ckreal, cksym, trivial⟩) hown (ls := fun i => [(33, LnmK l g i)]) (fun i => hl1 (by kernel_rfl) (by kernel_rfl) (lnmK l g i hown)) (fun hm i hi hj => ?_) 0 (fun hm => by first | exact Nat.zero_le _ | omega) (fun hm => rfl)
  rw [bnmC rest l g i]
  delta RQ IT
  simp only [Int.toNat_natCast, eq_self, true_and, and_true]
  refine ⟨fun h => ?_, fun h => ?_⟩
  · have h := of_decide_eq_true h
    have hlt : i < l.length := by omega
    have hi : i ≤ 999999 := by have := hm.few; omega
    refine ⟨by omega, fun _ => ⟨⟨⟨hm, hlt⟩, rfl⟩, fun _ => ⟨fun g1 => ?_, fun g1 => ?_⟩⟩⟩
    · have g1 := of_decide_eq_true g1
      exact ⟨hlt, idxM_step hj (by unfold toO; rw [g1]; simp), by omega, by omega⟩
    · have g1 := of_decide_eq_false g1
      have e := idxM_hit (n := l.length) hj (show toO l g i = true by unfold toO; simpa using g1) hlt
      rw [e]
      exact ⟨by simp; omega, rfl⟩
  · have h := of_decide_eq_false h
    have : i = l.length := by omega
    exact ⟨rfl, by rw [← this]; exact decide_eq_true hj⟩
def knames : List SVal → Nat → Acc ORes := fun a n => match a with
  | [.ptr q 0] => .look q fun cc => match cc with | some (.cells [.ro .obj l, .nilmap, .nilslice, .nilslice, .nilslice, .nilslice, .nilslice, .nilslice]) => (.ret (genR [q] (gone []) n (.err (namesE l)) ([(0, nmBox l), (1, .gmap .str spT (nmG l))]) 1 (some (l.length ≤ 16)))) | _ => .fail "names"
  | _ => .fail "names"
theorem fitnames (rest : List (Nat × SVal)) (l : List Ob) : (fits (envK (G7 ++ rest) [(49, kValidB), (47, kinside), (51, kjumps), (41, kkreal), (42, kksym)] 1) (S1 [.ptr 0 0] (numC 0 [.cells [.ro .obj l, .nilmap, .nilslice, .nilslice, .nilslice, .nilslice, .nilslice, .nilslice]]) 1 184) (S1 [.ptr 0 0] [(0, some (.cells [.ro .obj l, .nilmap, .nilslice, .nilslice, .nilslice, .nilslice, .nilslice, .nilslice]))] 1 184)) = (
  l = l) := by kernel_rfl
abbrev Tnames (rest : List (Nat × SVal)) (l : List Ob) : Prop := Tr.sat (newQ (envK (G7 ++ rest) [(49, kValidB), (47, kinside), (51, kjumps), (41, kkreal), (42, kksym)] 1) (.err (namesE l)) ([(0, nmBox l), (1, .gmap .str spT (nmG l))]) (1 + 1)) (run (envK (G7 ++ rest) [(49, kValidB), (47, kinside), (51, kjumps), (41, kkreal), (42, kksym)] 1) [(3, LnmA l), (19, LnmB l (nmG l)), (30, LnmC l (nmG l))] (bodyOf Tryd.f39) (S1 [.ptr 0 0] [(0, some (.cells [.ro .obj l, .nilmap, .nilslice, .nilslice, .nilslice, .nilslice, .nilslice, .nilslice]))] 1 184) (ends (envK (G7 ++ rest) [(49, kValidB), (47, kinside), (51, kjumps), (41, kkreal), (42, kksym)] 1) Tryd.f39.results.toList))
theorem runnames (rest : List (Nat × SVal)) (l : List Ob) : (Tnames rest l) = (
  RQ (List.length l ≤ (16 : Nat) ∧ l = l ∧ (↑(List.length l) : Int) = (↑(List.length l) : Int) ∧ (0 : Int) = (↑(0 : Nat) : Int) ∧ l = l ∧ some (@List.nil (FK.ty FK.str × RT.ty (RT.flat (FK.int IntKind.i64) [FK.int IntKind.i64]))) = some (nmO l (0 : Nat)).snd) (IT (!FErr.isErr (nmO l (List.length l)).fst) (RQ ((List.length l ≤ (16 : Nat) ∧ ∀ (i : Nat), i < List.length l → List.length (obN l i).syms ≤ (1000000 : Nat)) ∧ l = l ∧ (↑(List.length l) : Int) = (↑(List.length l) : Int) ∧ (0 : Int) = (↑(0 : Nat) : Int) ∧ l = l ∧ some (nmO l (List.length l)).snd = some (nmG l)) (IT (decide (idxM (noneO l (nmG l)) (List.length l) = List.length l)) (RQ (NmG l (nmG l) ∧ l = l ∧ (↑(List.length l) : Int) = (↑(List.length l) : Int) ∧ (0 : Int) = (↑(0 : Nat) : Int) ∧ l = l ∧ some (nmG l) = some (nmG l)) (IT (decide (idxM (toO l (nmG l)) (List.length l) = List.length l)) (RQ ((!!gHas (nmG l) (ByteArray.mk #[(109 : UInt8), (97 : UInt8), (105 : UInt8), (110 : UInt8)])) = true → (0 : Int) ≤ (gGet (RT.dflt (RT.flat (FK.int IntKind.i64) [FK.int IntKind.i64])) (nmG l) (ByteArray.mk #[(109 : UInt8), (97 : UInt8), (105 : UInt8), (110 : UInt8)])).fst ∧ (gGet (RT.dflt (RT.flat (FK.int IntKind.i64) [FK.int IntKind.i64])) (nmG l) (ByteArray.mk #[(109 : UInt8), (97 : UInt8), (105 : UInt8), (110 : UInt8)])).fst < (↑(List.length l) : Int) ∧ (0 : Int) ≤ (gGet (RT.dflt (RT.flat (FK.int IntKind.i64) [FK.int IntKind.i64])) (nmG l) (ByteArray.mk #[(109 : UInt8), (97 : UInt8), (105 : UInt8), (110 : UInt8)])).snd ∧ (gGet (RT.dflt (RT.flat (FK.int IntKind.i64) [FK.int IntKind.i64])) (nmG l) (ByteArray.mk #[(109 : UInt8), (97 : UInt8), (105 : UInt8), (110 : UInt8)])).snd < (↑(List.length (List.getD l (Int.toNat (gGet (RT.dflt (RT.flat (FK.int IntKind.i64) [FK.int IntKind.i64])) (nmG l) (ByteArray.mk #[(109 : UInt8), (97 : UInt8), (105 : UInt8), (110 : UInt8)])).fst) (RT.dflt RT.obj)).syms) : Int)) (IT (!gHas (nmG l) (ByteArray.mk #[(109 : UInt8), (97 : UInt8), (105 : UInt8), (110 : UInt8)]) || !decide ((symAt l (gGet (RT.dflt (RT.flat (FK.int IntKind.i64) [FK.int IntKind.i64])) (nmG l) (ByteArray.mk #[(109 : UInt8), (97 : UInt8), (105 : UInt8), (110 : UInt8)])).fst (gGet (RT.dflt (RT.flat (FK.int IntKind.i64) [FK.int IntKind.i64])) (nmG l) (ByteArray.mk #[(109 : UInt8), (97 : UInt8), (105 : UInt8), (110 : UInt8)])).snd).in_ = (2 : Int))) (FErr.bare (107 : Int) = namesE l ∧ l = l ∧ some (nmG l) = some (nmG l)) (FErr.fine = namesE l ∧ l = l ∧ some (nmG l) = some (nmG l)))) (FErr.placed (102 : Int) (↑(idxM (toO l (nmG l)) (List.length l)) : Int) = namesE l ∧ l = l ∧ some (nmG l) = some (nmG l)))) (FErr.placed (107 : Int) (↑(idxM (noneO l (nmG l)) (List.length l)) : Int) = namesE l ∧ l = l ∧ some (nmG l) = some (nmG l)))) ((nmO l (List.length l)).fst = namesE l ∧ l = l ∧ some (nmO l (List.length l)).snd = some (nmG l)))) := by kernel_rfl
set_option maxHeartbeats 4000000 in
theorem gnames (l : List Ob) (hv : l.length ≤ 16) : Box (Tnames rest l) := by
  refine .of (runnames rest l) ?_
  delta RQ IT
  simp only [Int.toNat_natCast, eq_self, true_and, and_true]
  have hE : namesE l = _ := namesE.eq_1 l
  have hG : (nmO l l.length).2 = nmG l := rfl
  rw [hG]
  refine ⟨⟨hv, rfl, rfl⟩, fun _ => ⟨fun g1 => ?_, fun g1 => ?_⟩⟩
  · have g1 : (nmO l l.length).1.isErr = false := by simpa using g1
    have hf := fine_of g1
    rw [if_neg (by rw [g1]; simp)] at hE
    have hval := (nmO_inv l _ hf).2
    refine ⟨⟨⟨hv, fun i hi => by have := (vOb (hval i hi)).syms; omega⟩, rfl, rfl⟩, fun _ => ⟨fun g2 => ?_, fun g2 => ?_⟩⟩
    · have g2 := of_decide_eq_true g2
      rw [if_neg (by simpa using g2)] at hE
      have G := nmG_ok hv hf g2
      refine ⟨⟨G, rfl⟩, fun _ => ⟨fun g3 => ?_, fun g3 => ?_⟩⟩
      · have g3 := of_decide_eq_true g3
        rw [if_neg (by simpa using g3)] at hE
        refine ⟨fun g4 => ?_, fun _ => ⟨fun g4 => ?_, fun g4 => ?_⟩⟩
        · have g4 : glH (nmG l) mainT = true := by rw [Bool.not_not] at g4; exact g4
          obtain ⟨o, x, e, h1, h2, _⟩ := G.inv.fnd _ g4
          show 0 ≤ (glG (nmG l) mainT).1 ∧ (glG (nmG l) mainT).1 < _ ∧ 0 ≤ (glG (nmG l) mainT).2 ∧ (glG (nmG l) mainT).2 < (((obN l (glG (nmG l) mainT).1.toNat).syms.length : Nat) : Int)
          rw [e]
          simp only [Int.toNat_natCast]
          exact ⟨by omega, by omega, by omega, by omega⟩
        · rw [hE, if_pos (show noMain l (nmG l) = true from g4)]
        · rw [hE, if_neg (show ¬ noMain l (nmG l) = true by rw [show noMain l (nmG l) = false from g4]; simp)]
      · have g3 := of_decide_eq_false g3
        rw [hE, if_pos (by simpa using g3)]
    · have g2 := of_decide_eq_false g2
      rw [hE, if_pos (by simpa using g2)]
  · have g1 : (nmO l l.length).1.isErr = true := by simpa using g1
    rw [hE, if_pos g1]
    exact ⟨rfl, rfl⟩
set_option maxHeartbeats 4000000 in
theorem cnames : Con ea has (G7 ++ rest) 39 knames := by
  refine gen_mk Tryd.func39 184 1 (con := [(49, kValidB), (47, kinside), (51, kjumps), (41, kkreal), (42, kksym)]) ⟨cValidB, cinside, cjumps, ckreal, cksym, trivial⟩ (fun hA hr hv => ?_) (by kernel_rfl) (by kernel_rfl) Tryd.ntmps39
  unfold knames at hr; split at hr
  · rename_i q
    simp only [Acc.run] at hr
    split at hr
    · rename_i l hq
      have := ret_ok hr; subst this
      refine ⟨[q], [], [.cells [.ro .obj l, .nilmap, .nilslice, .nilslice, .nilslice, .nilslice, .nilslice, .nilslice]], [.ptr 0 0], (S1 [.ptr 0 0] [(0, some (.cells [.ro .obj l, .nilmap, .nilslice, .nilslice, .nilslice, .nilslice, .nilslice, .nilslice]))] 1 184), [(3, LnmA l), (19, LnmB l (nmG l)), (30, LnmC l (nmG l))], .err (namesE l), [(0, nmBox l), (1, .gmap .str spT (nmG l))], 1, rfl, rfl, ⟨rfl, rfl, rfl⟩, rfl, ⟨hq, trivial⟩, rfl, rfl, .of (fitnames rest l) (by simp [nilR]), rfl, (fun W R ρ0 own0 hown => hl3 (by kernel_rfl) (by kernel_rfl) (lnmA l hown) (by kernel_rfl) (lnmB l (nmG l) hown) (by kernel_rfl) (lnmC l (nmG l) hown)), gnames l (hv _ rfl)⟩
    · cases hr
  · cases hr
end
end Go.Proofs.YtacmmedhjebfjaaDoor
set_option linter.unusedVariables false
set_option linter.unusedSimpArgs false
set_option linter.unusedSectionVars false
namespace Go.Proofs.YtacmmedhjebfjaaDoor
open Go.RowKit Go.Sy Go.Fac
section
variable {ea : Ear} {has : Int → Prop} {rest : List (Nat × SVal)} [ht : Nonempty (EType ea)]
abbrev kDo12B := borN [.ro (.flat (.int .i64) [.int .i64, .bool])] kDo12
theorem cDo12B : Con ea has (G7 ++ rest) 55 kDo12B := borN_ok cDo12 _
abbrev lyBox (l : List Ob) : Cont := .cells [.ro .obj l, .map 1, .own 2, .own 3, .own 4, .own 5, .nilslice, .nilslice]
abbrev lyHp (l : List Ob) (g : Glb) (da : List Int) (its : List itT.ty) (ow : List (Int × Int)) (im : List (Option Mp)) : List (Nat × Option Cont) := [(0, some (lyBox l)), (1, some (.gmap .str spT g)), (2, some (.recs .i64 da)), (3, some (.recs itT its)), (4, some (.recs spT ow)), (5, some (.recs imT im))]
def HlyI (l : List Ob) (g : Glb) (ii : Nat) (i : Nat) : SState := { fr := [(0, .ptr 0 0), (3, .int .i64 (.sym (oDn l (ii + 1)) 0 1000000)), (4, .int .i64 (.sym ii 0 1000000)), (5, .ptr 6 0), (6, .map 7), (24, .ro .obj l), (25, .int .i64 (.full l.length)), (26, .int .i64 (.sym ii 0 1000000)), (48, .ro .u8 (obN l ii).map), (49, .int .i64 (.full (obN l ii).map.length)), (50, .int .i64 (.sym i 0 1000000))], hp := lyHp l g (oDa l (ii + 1)) (oIt l ii ++ wIt (obN l ii).code (obN l ii).map i) (oOw l ii ++ wOw ii (obN l ii).map i) (oIm l ii) ++ [(6, some (.cells [.ro .u32 (obN l ii).data, .ro .u32 (obN l ii).code, .ro .u8 (obN l ii).map, .ro .rel (obN l ii).drels, .ro .rel (obN l ii).crels, .ro .sym (obN l ii).syms])), (7, some (.intMap (wAt (oBs l ii) (obN l ii).map i)))], next := 8, sz := 232 }
def XlyI (l : List Ob) (g : Glb) (ii : Nat) : SState := { fr := [(0, .ptr 0 0), (3, .int .i64 (.sym (oDn l (ii + 1)) 0 1000000)), (6, .rom (.int .i64) .i64 (some (wAt (oBs l ii) (obN l ii).map (obN l ii).map.length))), (24, .ro .obj l), (25, .int .i64 (.full l.length)), (26, .int .i64 (.sym ii 0 1000000))], hp := lyHp l g (oDa l (ii + 1)) (oIt l (ii + 1)) (oOw l (ii + 1)) (oIm l ii), next := 6, sz := 232 }
def LlyI (l : List Ob) (g : Glb) (ii : Nat) : LSum := ⟨HlyI l g ii 0, fun k => k (.exit 2) (XlyI l g ii), (obN l ii).map.length ≤ 2048 ∧ ii ≤ 1000 ∧ oBs l ii ≤ 1000000⟩
theorem blyI (rest : List (Nat × SVal)) (l : List Ob) (g : Glb) (ii : Nat) (i : Nat) : (Tr.sat (rnd1 (envK (G7 ++ rest) [(52, kInstr), (53, kTables), (54, kTwo), (41, kkreal), (42, kksym), (55, kDo12B), (56, kPlacesB)] 2) (fun _ => True) ((obN l ii).map.length) (HlyI l g ii) 2 (XlyI l g ii) i) (run (envK (G7 ++ rest) [(52, kInstr), (53, kTables), (54, kTwo), (41, kkreal), (42, kksym), (55, kDo12B), (56, kPlacesB)] 2) [] (loopN (loopN (bodyOf Tryd.f40) 0) 0) (HlyI l g ii i) .leaf)) = (
  IT (decide ((↑i : Int) < (↑(List.length (obN l ii).map) : Int))) (RQ ((0 : Int) ≤ (↑i : Int) ∧ (↑i : Int) < (↑(List.length (obN l ii).map) : Int)) (IT (decide (List.getD (obN l ii).map (Int.toNat (↑i : Int)) (RT.dflt RT.u8) = (0 : Int))) (i < List.length (obN l ii).map ∧ True ∧ oDn l (ii + (1 : Nat)) = oDn l (ii + (1 : Nat)) ∧ (↑ii : Int) = (↑ii : Int) ∧ l = l ∧ (↑(List.length l) : Int) = (↑(List.length l) : Int) ∧ (↑ii : Int) = (↑ii : Int) ∧ (obN l ii).map = (obN l ii).map ∧ (↑(List.length (obN l ii).map) : Int) = (↑(List.length (obN l ii).map) : Int) ∧ (↑i : Int) + (1 : Int) = (↑(i + (1 : Nat)) : Int) ∧ ((0 : Int) ≤ (↑(i + (1 : Nat)) : Int) ∧ (↑(i + (1 : Nat)) : Int) ≤ (1000000 : Int)) ∧ l = l ∧ some g = some g ∧ oDa l (ii + (1 : Nat)) = oDa l (ii + (1 : Nat)) ∧ oIt l ii ++ wIt (obN l ii).code (obN l ii).map i = oIt l ii ++ wIt (obN l ii).code (obN l ii).map (i + (1 : Nat)) ∧ oOw l ii ++ wOw ii (obN l ii).map i = oOw l ii ++ wOw ii (obN l ii).map (i + (1 : Nat)) ∧ oIm l ii = oIm l ii ∧ (obN l ii).data = (obN l ii).data ∧ (obN l ii).code = (obN l ii).code ∧ (obN l ii).map = (obN l ii).map ∧ (obN l ii).drels = (obN l ii).drels ∧ (obN l ii).crels = (obN l ii).crels ∧ (obN l ii).syms = (obN l ii).syms ∧ wAt (oBs l ii) (obN l ii).map i = wAt (oBs l ii) (obN l ii).map (i + (1 : Nat))) (IT (insB (obN l ii).code (obN l ii).map (↑i : Int) && isaTwo (insI (obN l ii).code (obN l ii).map (↑i : Int)).op) (RQ (List.length (oIt l ii ++ wIt (obN l ii).code (obN l ii).map i) + List.length [((2 : Int), (0 : Int), false)] ≤ (137438953472 : Nat)) (RQ (List.length (oOw l ii ++ wOw ii (obN l ii).map i) + List.length [((↑ii : Int), (↑i : Int))] ≤ (137438953472 : Nat)) (i < List.length (obN l ii).map ∧ True ∧ oDn l (ii + (1 : Nat)) = oDn l (ii + (1 : Nat)) ∧ (↑ii : Int) = (↑ii : Int) ∧ l = l ∧ (↑(List.length l) : Int) = (↑(List.length l) : Int) ∧ (↑ii : Int) = (↑ii : Int) ∧ (obN l ii).map = (obN l ii).map ∧ (↑(List.length (obN l ii).map) : Int) = (↑(List.length (obN l ii).map) : Int) ∧ (↑i : Int) + (1 : Int) = (↑(i + (1 : Nat)) : Int) ∧ ((0 : Int) ≤ (↑(i + (1 : Nat)) : Int) ∧ (↑(i + (1 : Nat)) : Int) ≤ (1000000 : Int)) ∧ l = l ∧ some g = some g ∧ oDa l (ii + (1 : Nat)) = oDa l (ii + (1 : Nat)) ∧ oIt l ii ++ wIt (obN l ii).code (obN l ii).map i ++ [((2 : Int), (0 : Int), false)] = oIt l ii ++ wIt (obN l ii).code (obN l ii).map (i + (1 : Nat)) ∧ oOw l ii ++ wOw ii (obN l ii).map i ++ [((↑ii : Int), (↑i : Int))] = oOw l ii ++ wOw ii (obN l ii).map (i + (1 : Nat)) ∧ oIm l ii = oIm l ii ∧ (obN l ii).data = (obN l ii).data ∧ (obN l ii).code = (obN l ii).code ∧ (obN l ii).map = (obN l ii).map ∧ (obN l ii).drels = (obN l ii).drels ∧ (obN l ii).crels = (obN l ii).crels ∧ (obN l ii).syms = (obN l ii).syms ∧ mapPut (wAt (oBs l ii) (obN l ii).map i) (↑i : Int) (↑(List.length (oIt l ii ++ wIt (obN l ii).code (obN l ii).map i)) : Int) = wAt (oBs l ii) (obN l ii).map (i + (1 : Nat))))) (RQ (List.length (oIt l ii ++ wIt (obN l ii).code (obN l ii).map i) + List.length [((1 : Int), (0 : Int), false)] ≤ (137438953472 : Nat)) (RQ (List.length (oOw l ii ++ wOw ii (obN l ii).map i) + List.length [((↑ii : Int), (↑i : Int))] ≤ (137438953472 : Nat)) (i < List.length (obN l ii).map ∧ True ∧ oDn l (ii + (1 : Nat)) = oDn l (ii + (1 : Nat)) ∧ (↑ii : Int) = (↑ii : Int) ∧ l = l ∧ (↑(List.length l) : Int) = (↑(List.length l) : Int) ∧ (↑ii : Int) = (↑ii : Int) ∧ (obN l ii).map = (obN l ii).map ∧ (↑(List.length (obN l ii).map) : Int) = (↑(List.length (obN l ii).map) : Int) ∧ (↑i : Int) + (1 : Int) = (↑(i + (1 : Nat)) : Int) ∧ ((0 : Int) ≤ (↑(i + (1 : Nat)) : Int) ∧ (↑(i + (1 : Nat)) : Int) ≤ (1000000 : Int)) ∧ l = l ∧ some g = some g ∧ oDa l (ii + (1 : Nat)) = oDa l (ii + (1 : Nat)) ∧ oIt l ii ++ wIt (obN l ii).code (obN l ii).map i ++ [((1 : Int), (0 : Int), false)] = oIt l ii ++ wIt (obN l ii).code (obN l ii).map (i + (1 : Nat)) ∧ oOw l ii ++ wOw ii (obN l ii).map i ++ [((↑ii : Int), (↑i : Int))] = oOw l ii ++ wOw ii (obN l ii).map (i + (1 : Nat)) ∧ oIm l ii = oIm l ii ∧ (obN l ii).data = (obN l ii).data ∧ (obN l ii).code = (obN l ii).code ∧ (obN l ii).map = (obN l ii).map ∧ (obN l ii).drels = (obN l ii).drels ∧ (obN l ii).crels = (obN l ii).crels ∧ (obN l ii).syms = (obN l ii).syms ∧ mapPut (wAt (oBs l ii) (obN l ii).map i) (↑i : Int) (↑(List.length (oIt l ii ++ wIt (obN l ii).code (obN l ii).map i)) : Int) = wAt (oBs l ii) (obN l ii).map (i + (1 : Nat)))))))) (Nat.beq (2 : Nat) (2 : Nat) = true ∧ oDn l (ii + (1 : Nat)) = oDn l (ii + (1 : Nat)) ∧ some (wAt (oBs l ii) (obN l ii).map i) = some (wAt (oBs l ii) (obN l ii).map (List.length (obN l ii).map)) ∧ l = l ∧ (↑(List.length l) : Int) = (↑(List.length l) : Int) ∧ (↑ii : Int) = (↑ii : Int) ∧ l = l ∧ some g = some g ∧ oDa l (ii + (1 : Nat)) = oDa l (ii + (1 : Nat)) ∧ oIt l ii ++ wIt (obN l ii).code (obN l ii).map i = oIt l (ii + (1 : Nat)) ∧ oOw l ii ++ wOw ii (obN l ii).map i = oOw l (ii + (1 : Nat)) ∧ oIm l ii = oIm l ii)) := by kernel_rfl
set_option maxHeartbeats 4000000 in
theorem llyI (l : List Ob) (g : Glb) (ii : Nat) {W : World} {R own0 : Nat → Prop} {ρ0 : Nat → Option Value} (hown : HownOk (envK (G7 ++ rest) [(52, kInstr), (53, kTables), (54, kTwo), (41, kkreal), (42, kksym), (55, kDo12B), (56, kPlacesB)] 2) own0 ρ0) : LOk Tryd.prog (envK (G7 ++ rest) [(52, kInstr), (53, kTables), (54, kTwo), (41, kkreal), (42, kksym), (55, kDo12B), (56, kPlacesB)] 2) (ctx ea has) (G7 ++ rest) W R own0 ρ0 (loopN (loopN (bodyOf Tryd.f40) 0) 0) (LlyI l g ii) := by
  refine loop1_ok (J := fun _ => True) (N := (obN l ii).map.length) (H := HlyI l g ii) (X := XlyI l g ii) (envK_ok (con := [(52, kInstr), (53, kTables), (54, kTwo), (41, kkreal), (42, kksym), (55, kDo12B), (56, kPlacesB)]) ⟨cInstr, cTables, cTwo, ckreal, cksym, cDo12B, cPlacesB, trivial⟩) hown (ls := fun i => []) (fun i => noSums (by kernel_rfl)) (fun hm i hi hj => ?_) 0 (fun hm => by first | exact Nat.zero_le _ | omega) (fun hm => trivial)
  rw [blyI rest l g ii i]
  delta RQ IT
  simp only [Int.toNat_natCast, eq_self, true_and, and_true]
  obtain ⟨h1, h2, h3⟩ := hm
  have d1 : RT.u8.dflt = (0 : Int) := rfl
  rw [d1]
  have L1 : (oIt l ii ++ wIt (obN l ii).code (obN l ii).map i).length = oBs l ii + rk (obN l ii).map i := by rw [List.length_append, oIt_len, wIt_len]
  have L2 : (oOw l ii ++ wOw ii (obN l ii).map i).length = oBs l ii + rk (obN l ii).map i := by rw [List.length_append, oOw_len, wOw_len]
  have hr := rk_le (obN l ii).map i
  have sz : szW (obN l ii).code (obN l ii).map i = if (insB (obN l ii).code (obN l ii).map i && isaTwo (insI (obN l ii).code (obN l ii).map i).op) = true then 2 else 1 := rfl
  have e1 : ∀ z, (obN l ii).map.getD i 0 ≠ 0 → szW (obN l ii).code (obN l ii).map i = z → oIt l ii ++ wIt (obN l ii).code (obN l ii).map i ++ [(z, 0, false)] = oIt l ii ++ wIt (obN l ii).code (obN l ii).map (i + 1) := fun z h hz => by
    rw [wIt, if_neg h, hz, List.append_assoc]
  have e2 : (obN l ii).map.getD i 0 ≠ 0 → oOw l ii ++ wOw ii (obN l ii).map i ++ [((ii : Int), (i : Int))] = oOw l ii ++ wOw ii (obN l ii).map (i + 1) := fun h => by
    rw [wOw, if_neg h, List.append_assoc]
  have e3 : (obN l ii).map.getD i 0 ≠ 0 → mapPut (wAt (oBs l ii) (obN l ii).map i) (i : Int) (((oIt l ii ++ wIt (obN l ii).code (obN l ii).map i).length : Nat) : Int) = wAt (oBs l ii) (obN l ii).map (i + 1) := fun h => by
    rw [wAt, if_neg h, L1]
  rw [L1, L2]
  rw [L1] at e3
  refine ⟨fun h => ?_, fun h => ?_⟩
  · have h := of_decide_eq_true h
    have hlt : i < (obN l ii).map.length := by omega
    refine ⟨by omega, fun _ => ⟨fun g1 => ?_, fun g1 => ⟨fun g2 => ⟨by simp only [List.length_singleton]; omega, fun _ => ⟨by simp only [List.length_singleton]; omega, fun _ => ?_⟩⟩, fun g2 => ⟨by simp only [List.length_singleton]; omega, fun _ => ⟨by simp only [List.length_singleton]; omega, fun _ => ?_⟩⟩⟩⟩⟩
    · have g1 := of_decide_eq_true g1
      rw [wIt, if_pos g1, wOw, if_pos g1, wAt, if_pos g1]
      exact ⟨hlt, by omega, by omega, rfl, rfl, rfl⟩
    · have g1 := of_decide_eq_false g1
      rw [if_pos g2] at sz
      exact ⟨hlt, by omega, by omega, e1 2 g1 sz, e2 g1, e3 g1⟩
    · have g1 := of_decide_eq_false g1
      rw [if_neg (by rw [g2]; simp)] at sz
      exact ⟨hlt, by omega, by omega, e1 1 g1 sz, e2 g1, e3 g1⟩
  · have h := of_decide_eq_false h
    have : i = (obN l ii).map.length := by omega
    subst this
    exact ⟨rfl, rfl, rfl, rfl⟩
def HlyA (l : List Ob) (g : Glb) (i : Nat) : SState := { fr := [(0, .ptr 0 0), (3, .int .i64 (.sym (oDn l i) 0 1000000)), (24, .ro .obj l), (25, .int .i64 (.full l.length)), (26, .int .i64 (.sym i 0 1000000))], hp := lyHp l g (oDa l i) (oIt l i) (oOw l i) (oIm l i), next := 6, sz := 232 }
def XlyA (l : List Ob) (g : Glb) : SState := { fr := [(0, .ptr 0 0), (3, .int .i64 (.sym (oDn l l.length) 0 1000000))], hp := lyHp l g (oDa l l.length) (oIt l l.length) (oOw l l.length) (oIm l l.length), next := 6, sz := 232 }
def LlyA (l : List Ob) (g : Glb) : LSum := ⟨HlyA l g 0, fun k => k (.exit 0) (XlyA l g), NmG l g⟩
theorem blyA (rest : List (Nat × SVal)) (l : List Ob) (g : Glb) (i : Nat) : (Tr.sat (rnd1 (envK (G7 ++ rest) [(52, kInstr), (53, kTables), (54, kTwo), (41, kkreal), (42, kksym), (55, kDo12B), (56, kPlacesB)] 2) (fun _ => True) (l.length) (HlyA l g) 0 (XlyA l g) i) (run (envK (G7 ++ rest) [(52, kInstr), (53, kTables), (54, kTwo), (41, kkreal), (42, kksym), (55, kDo12B), (56, kPlacesB)] 2) [(9, LlyI l g i)] (loopN (bodyOf Tryd.f40) 0) (HlyA l g i) .leaf)) = (
  IT (decide ((↑i : Int) < (↑(List.length l) : Int))) (RQ ((0 : Int) ≤ (↑i : Int) ∧ (↑i : Int) < (↑(List.length l) : Int)) (RQ (List.length (oDa l i) + List.length [oDn l i] ≤ (137438953472 : Nat)) (RQ ((List.length (obN l i).map ≤ (2048 : Nat) ∧ i ≤ (1000 : Nat) ∧ oBs l i ≤ (1000000 : Nat)) ∧ IntKind.wrap IntKind.i64 (oDn l i + (↑(List.length (List.getD l (Int.toNat (↑i : Int)) (RT.dflt RT.obj)).data) : Int)) = oDn l (i + (1 : Nat)) ∧ ((0 : Int) ≤ oDn l (i + (1 : Nat)) ∧ oDn l (i + (1 : Nat)) ≤ (1000000 : Int)) ∧ (↑i : Int) = (↑i : Int) ∧ l = l ∧ (↑(List.length l) : Int) = (↑(List.length l) : Int) ∧ (↑i : Int) = (↑i : Int) ∧ (List.getD l (Int.toNat (↑i : Int)) (RT.dflt RT.obj)).map = (obN l i).map ∧ (↑(List.length (List.getD l (Int.toNat (↑i : Int)) (RT.dflt RT.obj)).map) : Int) = (↑(List.length (obN l i).map) : Int) ∧ (0 : Int) = (↑(0 : Nat) : Int) ∧ l = l ∧ some g = some g ∧ oDa l i ++ [oDn l i] = oDa l (i + (1 : Nat)) ∧ oIt l i = oIt l i ++ wIt (obN l i).code (obN l i).map (0 : Nat) ∧ oOw l i = oOw l i ++ wOw i (obN l i).map (0 : Nat) ∧ oIm l i = oIm l i ∧ (List.getD l (Int.toNat (↑i : Int)) (RT.dflt RT.obj)).data = (obN l i).data ∧ (List.getD l (Int.toNat (↑i : Int)) (RT.dflt RT.obj)).code = (obN l i).code ∧ (List.getD l (Int.toNat (↑i : Int)) (RT.dflt RT.obj)).map = (obN l i).map ∧ (List.getD l (Int.toNat (↑i : Int)) (RT.dflt RT.obj)).drels = (obN l i).drels ∧ (List.getD l (Int.toNat (↑i : Int)) (RT.dflt RT.obj)).crels = (obN l i).crels ∧ (List.getD l (Int.toNat (↑i : Int)) (RT.dflt RT.obj)).syms = (obN l i).syms ∧ @List.nil (Int × Int) = wAt (oBs l i) (obN l i).map (0 : Nat)) (RQ (List.length (oIm l i) + List.length [some (wAt (oBs l i) (obN l i).map (List.length (obN l i).map))] ≤ (137438953472 : Nat)) (i < List.length l ∧ True ∧ oDn l (i + (1 : Nat)) = oDn l (i + (1 : Nat)) ∧ l = l ∧ (↑(List.length l) : Int) = (↑(List.length l) : Int) ∧ (↑i : Int) + (1 : Int) = (↑(i + (1 : Nat)) : Int) ∧ ((0 : Int) ≤ (↑(i + (1 : Nat)) : Int) ∧ (↑(i + (1 : Nat)) : Int) ≤ (1000000 : Int)) ∧ l = l ∧ some g = some g ∧ oDa l (i + (1 : Nat)) = oDa l (i + (1 : Nat)) ∧ oIt l (i + (1 : Nat)) = oIt l (i + (1 : Nat)) ∧ oOw l (i + (1 : Nat)) = oOw l (i + (1 : Nat)) ∧ oIm l i ++ [some (wAt (oBs l i) (obN l i).map (List.length (obN l i).map))] = oIm l (i + (1 : Nat))))))) (Nat.beq (0 : Nat) (0 : Nat) = true ∧ oDn l i = oDn l (List.length l) ∧ l = l ∧ some g = some g ∧ oDa l i = oDa l (List.length l) ∧ oIt l i = oIt l (List.length l) ∧ oOw l i = oOw l (List.length l) ∧ oIm l i = oIm l (List.length l))) := by kernel_rfl
set_option maxHeartbeats 4000000 in
theorem llyA (l : List Ob) (g : Glb) {W : World} {R own0 : Nat → Prop} {ρ0 : Nat → Option Value} (hown : HownOk (envK (G7 ++ rest) [(52, kInstr), (53, kTables), (54, kTwo), (41, kkreal), (42, kksym), (55, kDo12B), (56, kPlacesB)] 2) own0 ρ0) : LOk Tryd.prog (envK (G7 ++ rest) [(52, kInstr), (53, kTables), (54, kTwo), (41, kkreal), (42, kksym), (55, kDo12B), (56, kPlacesB)] 2) (ctx ea has) (G7 ++ rest) W R own0 ρ0 (loopN (bodyOf Tryd.f40) 0) (LlyA l g) := by
  refine loop1_ok (J := fun _ => True) (N := l.length) (H := HlyA l g) (X := XlyA l g) (envK_ok (con := [(52, kInstr), (53, kTables), (54, kTwo), (41, kkreal), (42, kksym), (55, kDo12B), (56, kPlacesB)]) ⟨cInstr, cTables, cTwo, ckreal, cksym, cDo12B, cPlacesB, trivial⟩) hown (ls := fun i => [(9, LlyI l g i)]) (fun i => hl1 (by kernel_rfl) (by kernel_rfl) (llyI l g i hown)) (fun hm i hi hj => ?_) 0 (fun hm => by first | exact Nat.zero_le _ | omega) (fun hm => trivial)
  rw [blyA rest l g i]
  delta RQ IT
  simp only [Int.toNat_natCast, eq_self, true_and, and_true]
  have G := hm
  have hf := G.few
  refine ⟨fun h => ?_, fun h => ?_⟩
  · have h := of_decide_eq_true h
    have hlt : i < l.length := by omega
    have V := G.val i hlt
    have v1 := V.map
    have v2 := V.code
    have v3 := V.data
    obtain ⟨b1, b2, b3⟩ := G.bs (show i ≤ l.length by omega)
    have d2 : oDn l (i + 1) = oDn l i + (obN l i).data.length := rfl
    have w : IntKind.i64.wrap (oDn l i + ((obN l i).data.length : Nat)) = oDn l (i + 1) := by rw [IntKind.wrap_i64, d2]; omega
    refine ⟨by omega, fun _ => ⟨by rw [oDa_len]; simp only [List.length_singleton]; omega, fun _ => ⟨⟨⟨by omega, by omega, by omega⟩, w, by omega, rfl, rfl, (List.append_nil _).symm, (List.append_nil _).symm, rfl⟩, fun _ => ⟨by rw [oIm_len]; simp only [List.length_singleton]; omega, fun _ => ⟨hlt, by omega, by omega, rfl⟩⟩⟩⟩⟩
  · have h := of_decide_eq_false h
    have : i = l.length := by omega
    subst this
    exact ⟨rfl, rfl, rfl, rfl, rfl, rfl⟩
def HlyJ (l : List Ob) (g : Glb) (ii : Nat) (i : Nat) : SState := { fr := [(0, .ptr 0 0), (3, .int .i64 (.sym (oDn l l.length) 0 1000000)), (12, .int .i64 (.sym ii 0 1000000)), (116, .ro .obj l), (117, .int .i64 (.full l.length)), (118, .int .i64 (.sym ii 0 1000000)), (124, .ro .rel (obN l ii).crels), (125, .int .i64 (.full (obN l ii).crels.length)), (126, .int .i64 (.sym i 0 1000000))], hp := lyHp l g (oDa l l.length) (brJ l g ii (brO l g ii) i) (oOw l l.length) (imL l), next := 6, sz := 232 }
def XlyJ (l : List Ob) (g : Glb) (ii : Nat) : SState := { fr := [(0, .ptr 0 0), (3, .int .i64 (.sym (oDn l l.length) 0 1000000)), (116, .ro .obj l), (117, .int .i64 (.full l.length)), (118, .int .i64 (.sym ii 0 1000000))], hp := lyHp l g (oDa l l.length) (brO l g (ii + 1)) (oOw l l.length) (imL l), next := 6, sz := 232 }
def LlyJ (l : List Ob) (g : Glb) (ii : Nat) : LSum := ⟨HlyJ l g ii 0, fun k => k (.exit 6) (XlyJ l g ii), NmG l g ∧ ii < l.length⟩
theorem blyJ (rest : List (Nat × SVal)) (l : List Ob) (g : Glb) (ii : Nat) (i : Nat) : (Tr.sat (rnd1 (envK (G7 ++ rest) [(52, kInstr), (53, kTables), (54, kTwo), (41, kkreal), (42, kksym), (55, kDo12B), (56, kPlacesB)] 2) (fun _ => True) ((obN l ii).crels.length) (HlyJ l g ii) 6 (XlyJ l g ii) i) (run (envK (G7 ++ rest) [(52, kInstr), (53, kTables), (54, kTwo), (41, kkreal), (42, kksym), (55, kDo12B), (56, kPlacesB)] 2) [] (loopN (loopN (bodyOf Tryd.f40) 1) 0) (HlyJ l g ii i) .leaf)) = (
  IT (decide ((↑i : Int) < (↑(List.length (obN l ii).crels) : Int))) (RQ ((0 : Int) ≤ (↑i : Int) ∧ (↑i : Int) < (↑(List.length (obN l ii).crels) : Int)) (IT (decide ((List.getD (obN l ii).crels (Int.toNat (↑i : Int)) (RT.dflt RT.rel)).kind = (2 : Int))) (RQ ((0 : Int) ≤ (↑ii : Int) ∧ (↑ii : Int) < (↑(List.length l) : Int) ∧ (0 : Int) ≤ (List.getD (obN l ii).crels (Int.toNat (↑i : Int)) (RT.dflt RT.rel)).sym ∧ (List.getD (obN l ii).crels (Int.toNat (↑i : Int)) (RT.dflt RT.rel)).sym < (↑(List.length (List.getD l (Int.toNat (↑ii : Int)) (RT.dflt RT.obj)).syms) : Int)) (RQ ((0 : Int) ≤ (↑ii : Int) ∧ (↑ii : Int) < (↑(List.length (imL l)) : Int)) (RQ ((0 : Int) ≤ gGet (RT.dflt RT.i64) (Option.getD (List.getD (imL l) (Int.toNat (↑ii : Int)) (RT.dflt (RT.fmap (FK.int IntKind.i64) RT.i64))) (@List.nil (FK.ty (FK.int IntKind.i64) × RT.ty RT.i64))) (List.getD (obN l ii).crels (Int.toNat (↑i : Int)) (RT.dflt RT.rel)).at_ ∧ gGet (RT.dflt RT.i64) (Option.getD (List.getD (imL l) (Int.toNat (↑ii : Int)) (RT.dflt (RT.fmap (FK.int IntKind.i64) RT.i64))) (@List.nil (FK.ty (FK.int IntKind.i64) × RT.ty RT.i64))) (List.getD (obN l ii).crels (Int.toNat (↑i : Int)) (RT.dflt RT.rel)).at_ < (↑(List.length (brJ l g ii (brO l g ii) i)) : Int)) (RQ ((0 : Int) ≤ (realM l g (↑ii : Int) (List.getD (obN l ii).crels (Int.toNat (↑i : Int)) (RT.dflt RT.rel)).sym).fst ∧ (realM l g (↑ii : Int) (List.getD (obN l ii).crels (Int.toNat (↑i : Int)) (RT.dflt RT.rel)).sym).fst < (↑(List.length (imL l)) : Int)) (RQ ((0 : Int) ≤ (realM l g (↑ii : Int) (List.getD (obN l ii).crels (Int.toNat (↑i : Int)) (RT.dflt RT.rel)).sym).fst ∧ (realM l g (↑ii : Int) (List.getD (obN l ii).crels (Int.toNat (↑i : Int)) (RT.dflt RT.rel)).sym).fst < (↑(List.length l) : Int) ∧ (0 : Int) ≤ (realM l g (↑ii : Int) (List.getD (obN l ii).crels (Int.toNat (↑i : Int)) (RT.dflt RT.rel)).sym).snd ∧ (realM l g (↑ii : Int) (List.getD (obN l ii).crels (Int.toNat (↑i : Int)) (RT.dflt RT.rel)).sym).snd < (↑(List.length (List.getD l (Int.toNat (realM l g (↑ii : Int) (List.getD (obN l ii).crels (Int.toNat (↑i : Int)) (RT.dflt RT.rel)).sym).fst) (RT.dflt RT.obj)).syms) : Int)) (i < List.length (obN l ii).crels ∧ True ∧ oDn l (List.length l) = oDn l (List.length l) ∧ (↑ii : Int) = (↑ii : Int) ∧ l = l ∧ (↑(List.length l) : Int) = (↑(List.length l) : Int) ∧ (↑ii : Int) = (↑ii : Int) ∧ (obN l ii).crels = (obN l ii).crels ∧ (↑(List.length (obN l ii).crels) : Int) = (↑(List.length (obN l ii).crels) : Int) ∧ (↑i : Int) + (1 : Int) = (↑(i + (1 : Nat)) : Int) ∧ ((0 : Int) ≤ (↑(i + (1 : Nat)) : Int) ∧ (↑(i + (1 : Nat)) : Int) ≤ (1000000 : Int)) ∧ l = l ∧ some g = some g ∧ oDa l (List.length l) = oDa l (List.length l) ∧ List.set (List.set (brJ l g ii (brO l g ii) i) (Int.toNat (gGet (RT.dflt RT.i64) (Option.getD (List.getD (imL l) (Int.toNat (↑ii : Int)) (RT.dflt (RT.fmap (FK.int IntKind.i64) RT.i64))) (@List.nil (FK.ty (FK.int IntKind.i64) × RT.ty RT.i64))) (List.getD (obN l ii).crels (Int.toNat (↑i : Int)) (RT.dflt RT.rel)).at_)) ((List.getD (brJ l g ii (brO l g ii) i) (Int.toNat (gGet (RT.dflt RT.i64) (Option.getD (List.getD (imL l) (Int.toNat (↑ii : Int)) (RT.dflt (RT.fmap (FK.int IntKind.i64) RT.i64))) (@List.nil (FK.ty (FK.int IntKind.i64) × RT.ty RT.i64))) (List.getD (obN l ii).crels (Int.toNat (↑i : Int)) (RT.dflt RT.rel)).at_)) (RT.dflt (RT.flat (FK.int IntKind.i64) [FK.int IntKind.i64, FK.bool]))).fst, (List.getD (brJ l g ii (brO l g ii) i) (Int.toNat (gGet (RT.dflt RT.i64) (Option.getD (List.getD (imL l) (Int.toNat (↑ii : Int)) (RT.dflt (RT.fmap (FK.int IntKind.i64) RT.i64))) (@List.nil (FK.ty (FK.int IntKind.i64) × RT.ty RT.i64))) (List.getD (obN l ii).crels (Int.toNat (↑i : Int)) (RT.dflt RT.rel)).at_)) (RT.dflt (RT.flat (FK.int IntKind.i64) [FK.int IntKind.i64, FK.bool]))).snd.fst, true)) (Int.toNat (gGet (RT.dflt RT.i64) (Option.getD (List.getD (imL l) (Int.toNat (↑ii : Int)) (RT.dflt (RT.fmap (FK.int IntKind.i64) RT.i64))) (@List.nil (FK.ty (FK.int IntKind.i64) × RT.ty RT.i64))) (List.getD (obN l ii).crels (Int.toNat (↑i : Int)) (RT.dflt RT.rel)).at_)) ((List.getD (List.set (brJ l g ii (brO l g ii) i) (Int.toNat (gGet (RT.dflt RT.i64) (Option.getD (List.getD (imL l) (Int.toNat (↑ii : Int)) (RT.dflt (RT.fmap (FK.int IntKind.i64) RT.i64))) (@List.nil (FK.ty (FK.int IntKind.i64) × RT.ty RT.i64))) (List.getD (obN l ii).crels (Int.toNat (↑i : Int)) (RT.dflt RT.rel)).at_)) ((List.getD (brJ l g ii (brO l g ii) i) (Int.toNat (gGet (RT.dflt RT.i64) (Option.getD (List.getD (imL l) (Int.toNat (↑ii : Int)) (RT.dflt (RT.fmap (FK.int IntKind.i64) RT.i64))) (@List.nil (FK.ty (FK.int IntKind.i64) × RT.ty RT.i64))) (List.getD (obN l ii).crels (Int.toNat (↑i : Int)) (RT.dflt RT.rel)).at_)) (RT.dflt (RT.flat (FK.int IntKind.i64) [FK.int IntKind.i64, FK.bool]))).fst, (List.getD (brJ l g ii (brO l g ii) i) (Int.toNat (gGet (RT.dflt RT.i64) (Option.getD (List.getD (imL l) (Int.toNat (↑ii : Int)) (RT.dflt (RT.fmap (FK.int IntKind.i64) RT.i64))) (@List.nil (FK.ty (FK.int IntKind.i64) × RT.ty RT.i64))) (List.getD (obN l ii).crels (Int.toNat (↑i : Int)) (RT.dflt RT.rel)).at_)) (RT.dflt (RT.flat (FK.int IntKind.i64) [FK.int IntKind.i64, FK.bool]))).snd.fst, true)) (Int.toNat (gGet (RT.dflt RT.i64) (Option.getD (List.getD (imL l) (Int.toNat (↑ii : Int)) (RT.dflt (RT.fmap (FK.int IntKind.i64) RT.i64))) (@List.nil (FK.ty (FK.int IntKind.i64) × RT.ty RT.i64))) (List.getD (obN l ii).crels (Int.toNat (↑i : Int)) (RT.dflt RT.rel)).at_)) (RT.dflt (RT.flat (FK.int IntKind.i64) [FK.int IntKind.i64, FK.bool]))).fst, gGet (RT.dflt RT.i64) (Option.getD (List.getD (imL l) (Int.toNat (realM l g (↑ii : Int) (List.getD (obN l ii).crels (Int.toNat (↑i : Int)) (RT.dflt RT.rel)).sym).fst) (RT.dflt (RT.fmap (FK.int IntKind.i64) RT.i64))) (@List.nil (FK.ty (FK.int IntKind.i64) × RT.ty RT.i64))) (symAt l (realM l g (↑ii : Int) (List.getD (obN l ii).crels (Int.toNat (↑i : Int)) (RT.dflt RT.rel)).sym).fst (realM l g (↑ii : Int) (List.getD (obN l ii).crels (Int.toNat (↑i : Int)) (RT.dflt RT.rel)).sym).snd).value, (List.getD (List.set (brJ l g ii (brO l g ii) i) (Int.toNat (gGet (RT.dflt RT.i64) (Option.getD (List.getD (imL l) (Int.toNat (↑ii : Int)) (RT.dflt (RT.fmap (FK.int IntKind.i64) RT.i64))) (@List.nil (FK.ty (FK.int IntKind.i64) × RT.ty RT.i64))) (List.getD (obN l ii).crels (Int.toNat (↑i : Int)) (RT.dflt RT.rel)).at_)) ((List.getD (brJ l g ii (brO l g ii) i) (Int.toNat (gGet (RT.dflt RT.i64) (Option.getD (List.getD (imL l) (Int.toNat (↑ii : Int)) (RT.dflt (RT.fmap (FK.int IntKind.i64) RT.i64))) (@List.nil (FK.ty (FK.int IntKind.i64) × RT.ty RT.i64))) (List.getD (obN l ii).crels (Int.toNat (↑i : Int)) (RT.dflt RT.rel)).at_)) (RT.dflt (RT.flat (FK.int IntKind.i64) [FK.int IntKind.i64, FK.bool]))).fst, (List.getD (brJ l g ii (brO l g ii) i) (Int.toNat (gGet (RT.dflt RT.i64) (Option.getD (List.getD (imL l) (Int.toNat (↑ii : Int)) (RT.dflt (RT.fmap (FK.int IntKind.i64) RT.i64))) (@List.nil (FK.ty (FK.int IntKind.i64) × RT.ty RT.i64))) (List.getD (obN l ii).crels (Int.toNat (↑i : Int)) (RT.dflt RT.rel)).at_)) (RT.dflt (RT.flat (FK.int IntKind.i64) [FK.int IntKind.i64, FK.bool]))).snd.fst, true)) (Int.toNat (gGet (RT.dflt RT.i64) (Option.getD (List.getD (imL l) (Int.toNat (↑ii : Int)) (RT.dflt (RT.fmap (FK.int IntKind.i64) RT.i64))) (@List.nil (FK.ty (FK.int IntKind.i64) × RT.ty RT.i64))) (List.getD (obN l ii).crels (Int.toNat (↑i : Int)) (RT.dflt RT.rel)).at_)) (RT.dflt (RT.flat (FK.int IntKind.i64) [FK.int IntKind.i64, FK.bool]))).snd.snd) = brJ l g ii (brO l g ii) (i + (1 : Nat)) ∧ oOw l (List.length l) = oOw l (List.length l) ∧ imL l = imL l)))))) (i < List.length (obN l ii).crels ∧ True ∧ oDn l (List.length l) = oDn l (List.length l) ∧ (↑ii : Int) = (↑ii : Int) ∧ l = l ∧ (↑(List.length l) : Int) = (↑(List.length l) : Int) ∧ (↑ii : Int) = (↑ii : Int) ∧ (obN l ii).crels = (obN l ii).crels ∧ (↑(List.length (obN l ii).crels) : Int) = (↑(List.length (obN l ii).crels) : Int) ∧ (↑i : Int) + (1 : Int) = (↑(i + (1 : Nat)) : Int) ∧ ((0 : Int) ≤ (↑(i + (1 : Nat)) : Int) ∧ (↑(i + (1 : Nat)) : Int) ≤ (1000000 : Int)) ∧ l = l ∧ some g = some g ∧ oDa l (List.length l) = oDa l (List.length l) ∧ brJ l g ii (brO l g ii) i = brJ l g ii (brO l g ii) (i + (1 : Nat)) ∧ oOw l (List.length l) = oOw l (List.length l) ∧ imL l = imL l))) (Nat.beq (6 : Nat) (6 : Nat) = true ∧ oDn l (List.length l) = oDn l (List.length l) ∧ l = l ∧ (↑(List.length l) : Int) = (↑(List.length l) : Int) ∧ (↑ii : Int) = (↑ii : Int) ∧ l = l ∧ some g = some g ∧ oDa l (List.length l) = oDa l (List.length l) ∧ brJ l g ii (brO l g ii) i = brO l g (ii + (1 : Nat)) ∧ oOw l (List.length l) = oOw l (List.length l) ∧ imL l = imL l)) := by kernel_rfl
set_option maxHeartbeats 4000000 in
theorem llyJ (l : List Ob) (g : Glb) (ii : Nat) {W : World} {R own0 : Nat → Prop} {ρ0 : Nat → Option Value} (hown : HownOk (envK (G7 ++ rest) [(52, kInstr), (53, kTables), (54, kTwo), (41, kkreal), (42, kksym), (55, kDo12B), (56, kPlacesB)] 2) own0 ρ0) : LOk Tryd.prog (envK (G7 ++ rest) [(52, kInstr), (53, kTables), (54, kTwo), (41, kkreal), (42, kksym), (55, kDo12B), (56, kPlacesB)] 2) (ctx ea has) (G7 ++ rest) W R own0 ρ0 (loopN (loopN (bodyOf Tryd.f40) 1) 0) (LlyJ l g ii) := by
  refine loop1_ok (J := fun _ => True) (N := (obN l ii).crels.length) (H := HlyJ l g ii) (X := XlyJ l g ii) (envK_ok (con := [(52, kInstr), (53, kTables), (54, kTwo), (41, kkreal), (42, kksym), (55, kDo12B), (56, kPlacesB)]) ⟨cInstr, cTables, cTwo, ckreal, cksym, cDo12B, cPlacesB, trivial⟩) hown (ls := fun i => []) (fun i => noSums (by kernel_rfl)) (fun hm i hi hj => ?_) 0 (fun hm => by first | exact Nat.zero_le _ | omega) (fun hm => trivial)
  rw [blyJ rest l g ii i]
  delta RQ IT
  simp only [Int.toNat_natCast, eq_self, true_and, and_true]
  obtain ⟨G, hii⟩ := hm
  have V := G.val ii hii
  have hcr := V.crels
  have hL := brJ_len l g ii (brO l g ii) i
  rw [brO_len] at hL
  have hI : (imL l).length = l.length := oIm_len l l.length
  have hs : brJ l g ii (brO l g ii) (i + 1) = brS l g ii i (brJ l g ii (brO l g ii) i) := rfl
  refine ⟨fun h => ?_, fun h => ?_⟩
  · have h := of_decide_eq_true h
    have hlt : i < (obN l ii).crels.length := by omega
    obtain ⟨c1, c2, c3, c4, c5, c6, c7, c8, _⟩ := V.crel hlt _ rfl
    obtain ⟨o, x, e, ho, hx, _⟩ := G.real hii c3 c4
    refine ⟨by omega, fun _ => ⟨fun g1 => ⟨⟨by omega, by omega, c3, c4⟩, fun _ => ⟨by omega, fun _ => ?_⟩⟩, fun g1 => ?_⟩⟩
    · have g1 := of_decide_eq_true g1
      have hm0 : (obN l ii).map.getD (relN l ii i).at_.toNat 0 = 1 := by
        unfold shapeB at c8
        rw [if_pos g1] at c8
        simp only [Bool.and_eq_true] at c8
        have hb := c8.1.1.1
        unfold insB at hb
        rw [Bool.and_eq_true] at hb
        have hb := hb.1
        unfold begM at hb
        simp only [Bool.not_eq_true', Bool.or_eq_false_iff, Bool.not_eq_false', decide_eq_true_eq] at hb
        exact hb.2
      have hw : (relN l ii i).at_.toNat < (obN l ii).map.length := by have := V.map; show ((obN l ii).crels.getD i RT.rel.dflt).at_.toNat < _; omega
      have ha := im1_at hii hw (by rw [hm0]; decide)
      rw [Int.toNat_of_nonneg c1] at ha
      have hp := pix_lt (l := l) hii hw (by rw [hm0]; decide)
      have hb : brP l ii i = pix l ii (relN l ii i).at_.toNat := by unfold brP; rw [ha]; rfl
      refine ⟨?_, fun _ => ⟨?_, fun _ => ⟨?_, fun _ => ⟨hlt, by omega, by omega, ?_⟩⟩⟩⟩
      · show 0 ≤ im1 (imL l) ii (relN l ii i).at_ ∧ im1 (imL l) ii (relN l ii i).at_ < _
        rw [ha, hL]; omega
      · rw [e, hI]; exact ⟨by omega, by omega⟩
      · rw [e]; exact ⟨by omega, by omega, by omega, by show ((x : Nat) : Int) < ((obN l ((o : Nat) : Int).toNat).syms.length : Nat); rw [Int.toNat_natCast]; omega⟩
      · rw [hs, brS, if_pos g1]
        exact brS_two _ (brP l ii i) _ (by rw [hL, hb]; exact hp)
    · have g1 := of_decide_eq_false g1
      refine ⟨hlt, by omega, by omega, ?_⟩
      rw [hs, brS, if_neg g1]
  · have h := of_decide_eq_false h
    have : i = (obN l ii).crels.length := by omega
    subst this
    exact ⟨rfl, rfl⟩
def HlyB (l : List Ob) (g : Glb) (i : Nat) : SState := { fr := [(0, .ptr 0 0), (3, .int .i64 (.sym (oDn l l.length) 0 1000000)), (116, .ro .obj l), (117, .int .i64 (.full l.length)), (118, .int .i64 (.sym i 0 1000000))], hp := lyHp l g (oDa l l.length) (brO l g i) (oOw l l.length) (imL l), next := 6, sz := 232 }
def XlyB (l : List Ob) (g : Glb) : SState := { fr := [(0, .ptr 0 0), (3, .int .i64 (.sym (oDn l l.length) 0 1000000))], hp := lyHp l g (oDa l l.length) (itF l g) (oOw l l.length) (imL l), next := 6, sz := 232 }
def LlyB (l : List Ob) (g : Glb) : LSum := ⟨HlyB l g 0, fun k => k (.exit 4) (XlyB l g), NmG l g⟩
theorem blyB (rest : List (Nat × SVal)) (l : List Ob) (g : Glb) (i : Nat) : (Tr.sat (rnd1 (envK (G7 ++ rest) [(52, kInstr), (53, kTables), (54, kTwo), (41, kkreal), (42, kksym), (55, kDo12B), (56, kPlacesB)] 2) (fun _ => True) (l.length) (HlyB l g) 4 (XlyB l g) i) (run (envK (G7 ++ rest) [(52, kInstr), (53, kTables), (54, kTwo), (41, kkreal), (42, kksym), (55, kDo12B), (56, kPlacesB)] 2) [(25, LlyJ l g i)] (loopN (bodyOf Tryd.f40) 1) (HlyB l g i) .leaf)) = (
  IT (decide ((↑i : Int) < (↑(List.length l) : Int))) (RQ ((0 : Int) ≤ (↑i : Int) ∧ (↑i : Int) < (↑(List.length l) : Int)) (RQ ((NmG l g ∧ i < List.length l) ∧ oDn l (List.length l) = oDn l (List.length l) ∧ (↑i : Int) = (↑i : Int) ∧ l = l ∧ (↑(List.length l) : Int) = (↑(List.length l) : Int) ∧ (↑i : Int) = (↑i : Int) ∧ (List.getD l (Int.toNat (↑i : Int)) (RT.dflt RT.obj)).crels = (obN l i).crels ∧ (↑(List.length (List.getD l (Int.toNat (↑i : Int)) (RT.dflt RT.obj)).crels) : Int) = (↑(List.length (obN l i).crels) : Int) ∧ (0 : Int) = (↑(0 : Nat) : Int) ∧ l = l ∧ some g = some g ∧ oDa l (List.length l) = oDa l (List.length l) ∧ brO l g i = brJ l g i (brO l g i) (0 : Nat) ∧ oOw l (List.length l) = oOw l (List.length l) ∧ imL l = imL l) (i < List.length l ∧ True ∧ oDn l (List.length l) = oDn l (List.length l) ∧ l = l ∧ (↑(List.length l) : Int) = (↑(List.length l) : Int) ∧ (↑i : Int) + (1 : Int) = (↑(i + (1 : Nat)) : Int) ∧ ((0 : Int) ≤ (↑(i + (1 : Nat)) : Int) ∧ (↑(i + (1 : Nat)) : Int) ≤ (1000000 : Int)) ∧ l = l ∧ some g = some g ∧ oDa l (List.length l) = oDa l (List.length l) ∧ brO l g (i + (1 : Nat)) = brO l g (i + (1 : Nat)) ∧ oOw l (List.length l) = oOw l (List.length l) ∧ imL l = imL l))) (Nat.beq (4 : Nat) (4 : Nat) = true ∧ oDn l (List.length l) = oDn l (List.length l) ∧ l = l ∧ some g = some g ∧ oDa l (List.length l) = oDa l (List.length l) ∧ brO l g i = itF l g ∧ oOw l (List.length l) = oOw l (List.length l) ∧ imL l = imL l)) := by kernel_rfl
set_option maxHeartbeats 4000000 in
theorem llyB (l : List Ob) (g : Glb) {W : World} {R own0 : Nat → Prop} {ρ0 : Nat → Option Value} (hown : HownOk (envK (G7 ++ rest) [(52, kInstr), (53, kTables), (54, kTwo), (41, kkreal), (42, kksym), (55, kDo12B), (56, kPlacesB)] 2) own0 ρ0) : LOk Tryd.prog (envK (G7 ++ rest) [(52, kInstr), (53, kTables), (54, kTwo), (41, kkreal), (42, kksym), (55, kDo12B), (56, kPlacesB)] 2) (ctx ea has) (G7 ++ rest) W R own0 ρ0 (loopN (bodyOf Tryd.f40) 1) (LlyB l g) := by
  refine loop1_ok (J := fun _ => True) (N := l.length) (H := HlyB l g) (X := XlyB l g) (envK_ok (con := [(52, kInstr), (53, kTables), (54, kTwo), (41, kkreal), (42, kksym), (55, kDo12B), (56, kPlacesB)]) ⟨cInstr, cTables, cTwo, ckreal, cksym, cDo12B, cPlacesB, trivial⟩) hown (ls := fun i => [(25, LlyJ l g i)]) (fun i => hl1 (by kernel_rfl) (by kernel_rfl) (llyJ l g i hown)) (fun hm i hi hj => ?_) 0 (fun hm => by first | exact Nat.zero_le _ | omega) (fun hm => trivial)
  rw [blyB rest l g i]
  delta RQ IT
  simp only [Int.toNat_natCast, eq_self, true_and, and_true]
  have hf := hm.few
  refine ⟨fun h => ?_, fun h => ?_⟩
  · have h := of_decide_eq_true h
    have hlt : i < l.length := by omega
    exact ⟨by omega, fun _ => ⟨⟨⟨hm, hlt⟩, rfl, rfl⟩, fun _ => ⟨hlt, by omega, by omega⟩⟩⟩
  · have h := of_decide_eq_false h
    have : i = l.length := by omega
    subst this
    exact ⟨rfl, rfl⟩
def HlyC (l : List Ob) (g : Glb) (i : Nat) : SState := { fr := [(0, .ptr 0 0), (3, .int .i64 (.sym (oDn l l.length) 0 1000000)), (18, .int .i64 (.sym (sumS (itF l g) i) 0 1000000)), (177, .own 3), (178, .int .i64 (.full (itF l g).length)), (179, .int .i64 (.sym i 0 1000000))], hp := lyHp l g (oDa l l.length) (itF l g) (oOw l l.length) (imL l), next := 6, sz := 232 }
def XlyC (l : List Ob) (g : Glb) : SState := { fr := [(0, .ptr 0 0), (3, .int .i64 (.sym (oDn l l.length) 0 1000000)), (18, .int .i64 (.sym (sumS (itF l g) (itF l g).length) 0 1000000))], hp := lyHp l g (oDa l l.length) (itF l g) (oOw l l.length) (imL l), next := 6, sz := 232 }
def LlyC (l : List Ob) (g : Glb) : LSum := ⟨HlyC l g 0, fun k => k (.exit 8) (XlyC l g), NmG l g⟩
theorem blyC (rest : List (Nat × SVal)) (l : List Ob) (g : Glb) (i : Nat) : (Tr.sat (rnd1 (envK (G7 ++ rest) [(52, kInstr), (53, kTables), (54, kTwo), (41, kkreal), (42, kksym), (55, kDo12B), (56, kPlacesB)] 2) (fun _ => True) ((itF l g).length) (HlyC l g) 8 (XlyC l g) i) (run (envK (G7 ++ rest) [(52, kInstr), (53, kTables), (54, kTwo), (41, kkreal), (42, kksym), (55, kDo12B), (56, kPlacesB)] 2) [] (loopN (bodyOf Tryd.f40) 2) (HlyC l g i) .leaf)) = (
  IT (decide ((↑i : Int) < (↑(List.length (itF l g)) : Int))) (RQ ((0 : Int) ≤ (↑i : Int) ∧ (↑i : Int) < (↑(List.length (itF l g)) : Int)) (i < List.length (itF l g) ∧ True ∧ oDn l (List.length l) = oDn l (List.length l) ∧ IntKind.wrap IntKind.i64 (sumS (itF l g) i + (List.getD (itF l g) (Int.toNat (↑i : Int)) (RT.dflt (RT.flat (FK.int IntKind.i64) [FK.int IntKind.i64, FK.bool]))).fst) = sumS (itF l g) (i + (1 : Nat)) ∧ ((0 : Int) ≤ sumS (itF l g) (i + (1 : Nat)) ∧ sumS (itF l g) (i + (1 : Nat)) ≤ (1000000 : Int)) ∧ (↑(List.length (itF l g)) : Int) = (↑(List.length (itF l g)) : Int) ∧ (↑i : Int) + (1 : Int) = (↑(i + (1 : Nat)) : Int) ∧ ((0 : Int) ≤ (↑(i + (1 : Nat)) : Int) ∧ (↑(i + (1 : Nat)) : Int) ≤ (1000000 : Int)) ∧ l = l ∧ some g = some g ∧ oDa l (List.length l) = oDa l (List.length l) ∧ itF l g = itF l g ∧ oOw l (List.length l) = oOw l (List.length l) ∧ imL l = imL l)) (Nat.beq (8 : Nat) (8 : Nat) = true ∧ oDn l (List.length l) = oDn l (List.length l) ∧ sumS (itF l g) i = sumS (itF l g) (List.length (itF l g)) ∧ l = l ∧ some g = some g ∧ oDa l (List.length l) = oDa l (List.length l) ∧ itF l g = itF l g ∧ oOw l (List.length l) = oOw l (List.length l) ∧ imL l = imL l)) := by kernel_rfl
set_option maxHeartbeats 4000000 in
theorem llyC (l : List Ob) (g : Glb) {W : World} {R own0 : Nat → Prop} {ρ0 : Nat → Option Value} (hown : HownOk (envK (G7 ++ rest) [(52, kInstr), (53, kTables), (54, kTwo), (41, kkreal), (42, kksym), (55, kDo12B), (56, kPlacesB)] 2) own0 ρ0) : LOk Tryd.prog (envK (G7 ++ rest) [(52, kInstr), (53, kTables), (54, kTwo), (41, kkreal), (42, kksym), (55, kDo12B), (56, kPlacesB)] 2) (ctx ea has) (G7 ++ rest) W R own0 ρ0 (loopN (bodyOf Tryd.f40) 2) (LlyC l g) := by
  refine loop1_ok (J := fun _ => True) (N := (itF l g).length) (H := HlyC l g) (X := XlyC l g) (envK_ok (con := [(52, kInstr), (53, kTables), (54, kTwo), (41, kkreal), (42, kksym), (55, kDo12B), (56, kPlacesB)]) ⟨cInstr, cTables, cTwo, ckreal, cksym, cDo12B, cPlacesB, trivial⟩) hown (ls := fun i => []) (fun i => noSums (by kernel_rfl)) (fun hm i hi hj => ?_) 0 (fun hm => by first | exact Nat.zero_le _ | omega) (fun hm => trivial)
  rw [blyC rest l g i]
  delta RQ IT
  simp only [Int.toNat_natCast, eq_self, true_and, and_true]
  have hL : (itF l g).length = oBs l l.length := brO_len l g l.length
  obtain ⟨b1, _⟩ := hm.bs (Nat.le_refl _)
  refine ⟨fun h => ?_, fun h => ?_⟩
  · have h := of_decide_eq_true h
    have hlt : i < (itF l g).length := by omega
    have s1 := sumS_le l g i (by omega)
    have s2 := itF_size l g (show i < oBs l l.length by omega)
    have s3 : sumS (itF l g) (i + 1) = sumS (itF l g) i + itS (itF l g) i := rfl
    have w : IntKind.i64.wrap (sumS (itF l g) i + itS (itF l g) i) = sumS (itF l g) (i + 1) := by rw [IntKind.wrap_i64, s3]; omega
    exact ⟨by omega, fun _ => ⟨hlt, w, by omega, by omega, by omega⟩⟩
  · have h := of_decide_eq_false h
    have : i = (itF l g).length := by omega
    exact ⟨rfl, by rw [← this]⟩
def klay : List SVal → Nat → Acc ORes := fun a n => match a with
  | [.ptr q 0] => .look q fun cc => match cc with | some (.cells [.ro .obj l, .map m, .nilslice, .nilslice, .nilslice, .nilslice, .nilslice, .nilslice]) => (.look m fun cc => match cc with | some (.gmap .str (.flat (.int .i64) [.int .i64]) g) => (match nodupB [q, m] with | true => .ret (genR [q, m] (gone []) n (.err (layE l g)) ([(0, .cells [.ro .obj l, .map 1, .own 2, .own 3, .own 4, .own 5, .own 7, .own 6]), (1, .gmap .str spT g), (2, .recs .i64 (oDa l l.length)), (3, .recs itT (itF l g)), (4, .recs spT (oOw l l.length)), (5, .recs imT (imL l)), (6, .recs .bool (loL l g)), (7, .recs .i64 (plLk l g))]) 6 (some (NmG l g))) | false => .fail "lay") | _ => .fail "lay") | _ => .fail "lay"
  | _ => .fail "lay"
theorem fitlay (rest : List (Nat × SVal)) (l : List Ob) (g : Glb) : (fits (envK (G7 ++ rest) [(52, kInstr), (53, kTables), (54, kTwo), (41, kkreal), (42, kksym), (55, kDo12B), (56, kPlacesB)] 2) (S1 [.ptr 0 0] (numC 0 [.cells [.ro .obj l, .map 1, .nilslice, .nilslice, .nilslice, .nilslice, .nilslice, .nilslice], .gmap .str (.flat (.int .i64) [.int .i64]) g]) 2 232) (S1 [.ptr 0 0] [(0, some (.cells [.ro .obj l, .map 1, .nilslice, .nilslice, .nilslice, .nilslice, .nilslice, .nilslice])), (1, some (.gmap .str spT g))] 2 232)) = (
  l = l ∧ some g = some g) := by kernel_rfl
abbrev Tlay (rest : List (Nat × SVal)) (l : List Ob) (g : Glb) : Prop := Tr.sat (newQ (envK (G7 ++ rest) [(52, kInstr), (53, kTables), (54, kTwo), (41, kkreal), (42, kksym), (55, kDo12B), (56, kPlacesB)] 2) (.err (layE l g)) ([(0, .cells [.ro .obj l, .map 1, .own 2, .own 3, .own 4, .own 5, .own 7, .own 6]), (1, .gmap .str spT g), (2, .recs .i64 (oDa l l.length)), (3, .recs itT (itF l g)), (4, .recs spT (oOw l l.length)), (5, .recs imT (imL l)), (6, .recs .bool (loL l g)), (7, .recs .i64 (plLk l g))]) (2 + 6)) (run (envK (G7 ++ rest) [(52, kInstr), (53, kTables), (54, kTwo), (41, kkreal), (42, kksym), (55, kDo12B), (56, kPlacesB)] 2) [(3, LlyA l g), (22, LlyB l g), (35, LlyC l g)] (bodyOf Tryd.f40) (S1 [.ptr 0 0] [(0, some (.cells [.ro .obj l, .map 1, .nilslice, .nilslice, .nilslice, .nilslice, .nilslice, .nilslice])), (1, some (.gmap .str spT g))] 2 232) (ends (envK (G7 ++ rest) [(52, kInstr), (53, kTables), (54, kTwo), (41, kkreal), (42, kksym), (55, kDo12B), (56, kPlacesB)] 2) Tryd.f40.results.toList))
theorem runlay (rest : List (Nat × SVal)) (l : List Ob) (g : Glb) : (Tlay rest l g) = (
  RQ (NmG l g ∧ (0 : Int) = oDn l (0 : Nat) ∧ l = l ∧ (↑(List.length l) : Int) = (↑(List.length l) : Int) ∧ (0 : Int) = (↑(0 : Nat) : Int) ∧ l = l ∧ some g = some g ∧ oDa l (0 : Nat) = @List.nil (RT.ty RT.i64) ∧ oIt l (0 : Nat) = @List.nil (RT.ty itT) ∧ oOw l (0 : Nat) = @List.nil (RT.ty spT) ∧ oIm l (0 : Nat) = @List.nil (RT.ty imT)) (RQ (NmG l g ∧ oDn l (List.length l) = oDn l (List.length l) ∧ l = l ∧ (↑(List.length l) : Int) = (↑(List.length l) : Int) ∧ (0 : Int) = (↑(0 : Nat) : Int) ∧ l = l ∧ some g = some g ∧ oDa l (List.length l) = oDa l (List.length l) ∧ oIt l (List.length l) = brO l g (0 : Nat) ∧ oOw l (List.length l) = oOw l (List.length l) ∧ oIm l (List.length l) = imL l) (RQ (NmG l g ∧ oDn l (List.length l) = oDn l (List.length l) ∧ (0 : Int) = sumS (itF l g) (0 : Nat) ∧ (↑(List.length (itF l g)) : Int) = (↑(List.length (itF l g)) : Int) ∧ (0 : Int) = (↑(0 : Nat) : Int) ∧ l = l ∧ some g = some g ∧ oDa l (List.length l) = oDa l (List.length l) ∧ itF l g = itF l g ∧ oOw l (List.length l) = oOw l (List.length l) ∧ imL l = imL l) (IT (decide ((2048 : Int) < oDn l (List.length l)) || decide ((2048 : Int) < sumS (itF l g) (List.length (itF l g)))) (FErr.bare (104 : Int) = layE l g ∧ l = l ∧ some g = some g ∧ oDa l (List.length l) = oDa l (List.length l) ∧ itF l g = itF l g ∧ oOw l (List.length l) = oOw l (List.length l) ∧ imL l = imL l ∧ loL l g = @List.nil (RT.ty RT.bool) ∧ plLk l g = @List.nil (RT.ty RT.i64)) (RQ (ItOk (itF l g) ∧ TgOk (itF l g)) (RQ (ItOk (itF l g) ∧ List.length (rlx (itF l g)) = List.length (itF l g)) (RQ ((0 : Int) ≤ (↑(List.length (itF l g)) : Int) ∧ (↑(List.length (itF l g)) : Int) < (↑(List.length (plA (itF l g) (rlx (itF l g)))) : Int)) (IT (decide ((2048 : Int) < List.getD (plA (itF l g) (rlx (itF l g))) (Int.toNat (↑(List.length (itF l g)) : Int)) (RT.dflt RT.i64))) (FErr.bare (104 : Int) = layE l g ∧ l = l ∧ some g = some g ∧ oDa l (List.length l) = oDa l (List.length l) ∧ itF l g = itF l g ∧ oOw l (List.length l) = oOw l (List.length l) ∧ imL l = imL l ∧ rlx (itF l g) = loL l g ∧ plA (itF l g) (rlx (itF l g)) = plLk l g) (FErr.fine = layE l g ∧ l = l ∧ some g = some g ∧ oDa l (List.length l) = oDa l (List.length l) ∧ itF l g = itF l g ∧ oOw l (List.length l) = oOw l (List.length l) ∧ imL l = imL l ∧ rlx (itF l g) = loL l g ∧ plA (itF l g) (rlx (itF l g)) = plLk l g))))))))) := by kernel_rfl
set_option maxHeartbeats 4000000 in
theorem glay (l : List Ob) (g : Glb) (hv : NmG l g) : Box (Tlay rest l g) := by
  refine .of (runlay rest l g) ?_
  delta RQ IT
  simp only [Int.toNat_natCast, eq_self, true_and, and_true]
  have hE : layE l g = _ := layE.eq_1 l g
  have hlo : loL l g = _ := loL.eq_1 l g
  have hpl : plLk l g = _ := plLk.eq_1 l g
  refine ⟨⟨hv, rfl, rfl, rfl, rfl, rfl, rfl⟩, fun _ => ⟨⟨hv, rfl, rfl⟩, fun _ => ⟨⟨hv, rfl, rfl⟩, fun _ => ⟨fun h1 => ?_, fun h1 => ?_⟩⟩⟩⟩
  · have h1 : manyL l g = true := h1
    rw [if_pos h1] at hE hlo hpl
    exact ⟨hE.symm, hlo, hpl⟩
  · have h1 : manyL l g = false := h1
    rw [if_neg (by rw [h1]; simp)] at hE hlo hpl
    obtain ⟨k1, k2, k3⟩ := itF_ok hv h1
    have hp : (plA (itF l g) (rlx (itF l g))).length = (itF l g).length + 1 := plL_len _ _ _
    have hg : (plA (itF l g) (rlx (itF l g))).getD (itF l g).length RT.i64.dflt = plS (itF l g) (rlx (itF l g)) (itF l g).length := plL_get _ _ _ _ (Nat.lt_succ_self _)
    rw [hp]
    refine ⟨⟨k1, k2⟩, fun _ => ⟨⟨k1, rlx_len _⟩, fun _ => ⟨⟨by omega, by omega⟩, fun _ => ⟨fun h2 => ?_, fun h2 => ?_⟩⟩⟩⟩
    · have h2 := of_decide_eq_true h2
      rw [hg] at h2
      rw [if_pos h2] at hE
      exact ⟨hE.symm, hlo.symm, hpl.symm⟩
    · have h2 := of_decide_eq_false h2
      rw [hg] at h2
      rw [if_neg h2] at hE
      exact ⟨hE.symm, hlo.symm, hpl.symm⟩
set_option maxHeartbeats 4000000 in
theorem clay : Con ea has (G7 ++ rest) 40 klay := by
  refine gen_mk Tryd.func40 232 2 (con := [(52, kInstr), (53, kTables), (54, kTwo), (41, kkreal), (42, kksym), (55, kDo12B), (56, kPlacesB)]) ⟨cInstr, cTables, cTwo, ckreal, cksym, cDo12B, cPlacesB, trivial⟩ (fun hA hr hv => ?_) (by kernel_rfl) (by kernel_rfl) Tryd.ntmps40
  unfold klay at hr; split at hr
  · rename_i q
    simp only [Acc.run] at hr
    split at hr
    · rename_i l m hq
      simp only [Acc.run] at hr
      split at hr
      · rename_i g hm
        split at hr
        · rename_i hnd
          have := ret_ok hr; subst this
          refine ⟨[q, m], [], [.cells [.ro .obj l, .map 1, .nilslice, .nilslice, .nilslice, .nilslice, .nilslice, .nilslice], .gmap .str (.flat (.int .i64) [.int .i64]) g], [.ptr 0 0], (S1 [.ptr 0 0] [(0, some (.cells [.ro .obj l, .map 1, .nilslice, .nilslice, .nilslice, .nilslice, .nilslice, .nilslice])), (1, some (.gmap .str spT g))] 2 232), [(3, LlyA l g), (22, LlyB l g), (35, LlyC l g)], .err (layE l g), [(0, .cells [.ro .obj l, .map 1, .own 2, .own 3, .own 4, .own 5, .own 7, .own 6]), (1, .gmap .str spT g), (2, .recs .i64 (oDa l l.length)), (3, .recs itT (itF l g)), (4, .recs spT (oOw l l.length)), (5, .recs imT (imL l)), (6, .recs .bool (loL l g)), (7, .recs .i64 (plLk l g))], 6, rfl, rfl, ⟨rfl, rfl, rfl⟩, hnd, ⟨hq, hm, trivial⟩, rfl, rfl, .of (fitlay rest l g) (by simp [nilR]), rfl, (fun W R ρ0 own0 hown => hl3 (by kernel_rfl) (by kernel_rfl) (llyA l g hown) (by kernel_rfl) (llyB l g hown) (by kernel_rfl) (llyC l g hown)), glay l g (hv _ rfl)⟩
        · cases hr
      · cases hr
    · cases hr
  · cases hr
end
end Go.Proofs.YtacmmedhjebfjaaDoor
