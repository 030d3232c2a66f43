/- Contracts. -/
import Derived.Test.YtpjccdncokamlaaGreatDoorQFnEq7
import Derived.Test.YtpjccdncokamlaaGreatDoorQBareM
import Derived.Test.YtpjccdncokamlaaGreatDoorQSyLend
set_option maxHeartbeats 4000000
set_option linter.unusedVariables false
set_option linter.unusedSimpArgs false
namespace Go.Proofs.YtpjccdncokamlaaGreatDoor
open Go.RowKit Go.Sy Go.Fac
section
variable {ea : Ear} {has : Int → Prop} {gl : List (Nat × SVal)}
abbrev dCells (a b : Nat) (d : Dv) : List SVal := [.own a, .arr .u32 16 d.sec, .bool (.sym d.on), .int .i64 (.full d.at_), .own b]
abbrev eCells (a b : Nat) (d : Dv) : List SVal := [.own a, .own b, .arr .u32 16 d.sec, .int .i64 (.full d.at_), .bool (.sym d.on)]
def few {α : Type} (l : List α) : Prop := l.length ≤ 1000000
theorem runCloneW0 (gl : List (Nat × SVal)) : (Tr.sat (newQ (env gl []) (.own 0) [(0, .recs .u32 [])] 1) (run (env gl []) [] (bodyOf Tryz.f57) (start [.nilslice] 8) (ends (env gl []) Tryz.f57.results.toList))) = (
  @List.nil (RT.ty RT.u32) = @List.nil (RT.ty RT.u32)) := by kernel_rfl
theorem runCloneW1 (gl : List (Nat × SVal)) (l : List Int) : (Tr.sat (newQ (env gl []) (.own 0) [(0, .recs .u32 l)] 1) (run (env gl []) [] (bodyOf Tryz.f57) (start [.roN .u32 l] 8) (ends (env gl []) Tryz.f57.results.toList))) = (
  RQ (List.length (@List.nil (RT.ty RT.u32)) + List.length l ≤ 137438953472) (@List.nil (RT.ty RT.u32) ++ l = l)) := by kernel_rfl
theorem cCloneW0 : Con ea has gl 57 (kClone .u32) := by
  refine clone_mk Tryz.func57 8 ?_ ?_ (by kernel_rfl) (by kernel_rfl) (by kernel_rfl) Tryz.ntmps57 rfl
  · have := runCloneW0 gl; exact this.mpr rfl
  · intro l hl; exact (runCloneW1 gl l).mpr ⟨by simpa using hl, fun _ => rfl⟩
abbrev kCloneW := borN [.ro .u32] (kClone .u32)
theorem cCloneW : Con ea has gl 57 kCloneW := borN_ok cCloneW0 _
theorem runCloneSn0 (gl : List (Nat × SVal)) : (Tr.sat (newQ (env gl []) (.own 0) [(0, .recs seenT [])] 1) (run (env gl []) [] (bodyOf Tryz.f61) (start [.nilslice] 8) (ends (env gl []) Tryz.f61.results.toList))) = (
  @List.nil (RT.ty (RT.flat (FK.int IntKind.i64) [FK.int IntKind.u32, FK.int IntKind.u32])) = @List.nil (RT.ty seenT)) := by kernel_rfl
theorem runCloneSn1 (gl : List (Nat × SVal)) (l : List (Int × Int × Int)) : (Tr.sat (newQ (env gl []) (.own 0) [(0, .recs seenT l)] 1) (run (env gl []) [] (bodyOf Tryz.f61) (start [.roN seenT l] 8) (ends (env gl []) Tryz.f61.results.toList))) = (
  RQ (List.length (@List.nil (RT.ty (RT.flat (FK.int IntKind.i64) [FK.int IntKind.u32, FK.int IntKind.u32]))) + List.length l ≤ 137438953472) (@List.nil (RT.ty (RT.flat (FK.int IntKind.i64) [FK.int IntKind.u32, FK.int IntKind.u32])) ++ l = l)) := by kernel_rfl
theorem cCloneSn0 : Con ea has gl 61 (kClone seenT) := by
  refine clone_mk Tryz.func61 8 ?_ ?_ (by kernel_rfl) (by kernel_rfl) (by kernel_rfl) Tryz.ntmps61 rfl
  · have := runCloneSn0 gl; exact this.mpr rfl
  · intro l hl; exact (runCloneSn1 gl l).mpr ⟨by simpa using hl, fun _ => rfl⟩
abbrev kCloneSn := borN [.ro seenT] (kClone seenT)
theorem cCloneSn : Con ea has gl 61 kCloneSn := borN_ok cCloneSn0 _
def HWordsN' (l : List Int) (i : Nat) : SState := { fr := [(0, .ro .u32 l), (3, .own 0), (4, .int .i64 (.sym i 0 1000000))], hp := [(0, some (.recs .u32 (l.take i)))], next := 1, sz := 22 }
def XWordsN' (l : List Int) : SState := { fr := [(3, .own 0)], hp := [(0, some (.recs .u32 l))], next := 1, sz := 22 }
def LWordsN' (l : List Int) : LSum := ⟨HWordsN' l 0, fun k => k (.exit 0) (XWordsN' l), l.length ≤ 1000000⟩
theorem bWordsN' (gl : List (Nat × SVal)) (l : List Int) (i : Nat) : (Tr.sat (rnd1 (env gl []) (fun _ => True) (l.length) (HWordsN' l) 0 (XWordsN' l) i) (run (env gl []) [] (loopN (bodyOf Tryz.f60) 0) (HWordsN' l i) .leaf)) = (
  IT (decide ((i : Int) < ((List.length l) : Int))) (RQ (0 ≤ (i : Int) ∧ (i : Int) < ((List.length l) : Int)) (RQ (List.length (List.take i l) + List.length [List.getD l (Int.toNat (i : Int)) (RT.dflt RT.u32)] ≤ 137438953472) (i < List.length l ∧ True ∧ l = l ∧ (i : Int) + 1 = ((i + 1) : Int) ∧ (0 ≤ ((i + 1) : Int) ∧ ((i + 1) : Int) ≤ 1000000) ∧ List.take i l ++ [List.getD l (Int.toNat (i : Int)) (RT.dflt RT.u32)] = List.take (i + 1) l))) (Nat.beq (0 : Nat) (0 : Nat) = true ∧ List.take i l = l)) := by kernel_rfl
theorem lWordsN' (l : List Int) {W : World} {R own0 : Nat → Prop} {ρ0 : Nat → Option Value} (hown : HownOk (env gl []) own0 ρ0) : LOk Tryz.prog (env gl []) (ctx ea has) gl W R own0 ρ0 (loopN (bodyOf Tryz.f60) 0) (LWordsN' l) := by
  refine loop1_ok (J := fun _ => True) (N := l.length) (H := HWordsN' l) (X := XWordsN' l) (env_ok (con := []) trivial) hown (ls := fun i => []) (fun i => noSums (by kernel_rfl)) (fun hm i hi hj => ?_) 0 (fun hm => by first | exact Nat.zero_le _ | omega) (fun hm => trivial)
  rw [bWordsN' gl l i]
  have d0 : RT.u32.dflt = (0 : Int) := rfl
  simp only [d0, Int.toNat_natCast, List.length_singleton, List.length_take]
  refine ⟨fun h => ?_, fun h => ?_⟩
  · have h := of_decide_eq_true h
    have hlt : i < l.length := by omega
    have : l.take i ++ [l.getD i 0] = l.take (i + 1) := by rw [List.take_add_one, List.getElem?_eq_getElem hlt]; simp [hlt]
    refine ⟨by omega, fun _ => ⟨by omega, fun _ => ⟨hlt, trivial, ?_⟩⟩⟩
    simp only [this, true_and, and_true]; omega
  · have h := of_decide_eq_false h
    exact ⟨rfl, List.take_of_length_le (by omega)⟩
def kWordsN0 : List SVal → Nat → Acc ORes := fun a n => match a with | [.ro .u32 l] => .ret (newR n (.own 0) ([(0, .recs .u32 l)]) 1 (some (l.length ≤ 1000000))) | _ => .fail "WordsN0"
theorem argWordsN0 (l : List Int) : (all (subL tAtN none' [] deep [.ro .u32 l] [.ro .u32 l])) = (
  l = l) := by kernel_rfl
abbrev TWordsN0 (gl : List (Nat × SVal)) (l : List Int) : Prop := Tr.sat (newQ (env gl []) (.own 0) ([(0, .recs .u32 l)]) 1) (run (env gl []) [(3, LWordsN' l)] (bodyOf Tryz.f60) (start [.ro .u32 l] 22) (ends (env gl []) Tryz.f60.results.toList))
theorem runWordsN0 (gl : List (Nat × SVal)) (l : List Int) : (TWordsN0 gl l) = (
  RQ ((0 : Int) ≤ (0 : Int) ∧ 0 ≤ ((List.length l) : Int) ∧ ((List.length l) : Int) ≤ 137438953472) (RQ (List.length l ≤ 1000000 ∧ l = l ∧ (0 : Int) = ((0 : Nat) : Int) ∧ List.replicate (Int.toNat (0 : Int)) (RT.dflt RT.u32) = List.take (0 : Nat) l) (l = l))) := by kernel_rfl
theorem gWordsN0 (l : List Int)  (hv : l.length ≤ 1000000) : Box (TWordsN0 gl l) := by
  refine .of (runWordsN0 gl l) ?_
  exact ⟨by omega, fun _ => ⟨⟨hv, rfl, rfl, rfl⟩, fun _ => rfl⟩⟩
theorem cWordsN0 : Con ea has gl 60 kWordsN0 := by
  refine new_mkB Tryz.func60 22 (con := []) trivial (fun hA hr hv => ?_) (by kernel_rfl) (by kernel_rfl) Tryz.ntmps60
  unfold kWordsN0 at hr; split at hr
  · rename_i l
    have := ret_ok hr; subst this
    replace hv := hv _ rfl
    exact ⟨_, [(3, LWordsN' l)], _, _, _, ⟨rfl, rfl, rfl⟩, .of (argWordsN0 l) (by simp), rfl, rfl, (fun W R ρ0 own0 hown => hl1 (by kernel_rfl) (by kernel_rfl) (lWordsN' l hown)), gWordsN0 l  hv⟩
  · cases hr
abbrev kWordsN := borN [.ro .u32] kWordsN0
theorem cWordsN : Con ea has gl 60 kWordsN := borN_ok cWordsN0 _
def kmNew : List SVal → Nat → Acc ORes := fun a n => match a with | [.int .i64 n'] => .ret (newR n (.tuple [.ptr 0 0, .nilIface]) ([(0, .cells [.own 1]), (1, .recs .u32 (List.replicate (n'.val * 16).toNat 0))]) 2 (some (1 ≤ n'.val ∧ n'.val ≤ 1024))) | _ => .fail "mNew"
theorem argmNew (n' : SI) : (all (subL tAtN none' [] deep [.int .i64 n'] [.int .i64 (.full n'.val)])) = (
  SI.val n' = SI.val n') := by kernel_rfl
abbrev TmNew (gl : List (Nat × SVal)) (n : Int) : Prop := Tr.sat (newQ (env gl []) (.tuple [.ptr 0 0, .nilIface]) ([(0, .cells [.own 1]), (1, .recs .u32 (List.replicate (n * 16).toNat 0))]) 2) (run (env gl []) [(1000000, cutL { fr := [(0, .int .i64 (.sym n 1 1024))], hp := [], next := 0, sz := 16 })] (bodyOf Tryz.f18) (start [.int .i64 (.full n)] 16) (ends (env gl []) Tryz.f18.results.toList))
theorem runmNew (gl : List (Nat × SVal)) (n : Int) : (TmNew gl n) = (
  RQ (n = n ∧ (1 : Int) ≤ n ∧ n ≤ 1024) (RQ (0 ≤ n * 16 ∧ n * 16 ≤ n * 16 ∧ n * 16 ≤ (137438953472 : Int)) (List.replicate (Int.toNat (n * 16)) (RT.dflt RT.u32) = List.replicate (Int.toNat (n * 16)) (0 : RT.ty RT.u32)))) := by kernel_rfl
theorem gmNew (n : Int)  (hv : 1 ≤ n ∧ n ≤ 1024) : Box (TmNew gl n) := by
  refine .of (runmNew gl n) ?_
  exact ⟨⟨rfl, hv⟩, fun _ => ⟨by omega, fun _ => rfl⟩⟩
theorem cmNew : Con ea has gl 18 kmNew := by
  refine new_mkB Tryz.func18 16 (con := []) trivial (fun hA hr hv => ?_) (by kernel_rfl) (by kernel_rfl) Tryz.ntmps18
  unfold kmNew at hr; split at hr
  · rename_i n'
    have := ret_ok hr; subst this
    replace hv := hv _ rfl
    exact ⟨_, [(1000000, cutL { fr := [(0, .int .i64 (.sym n'.val 1 1024))], hp := [], next := 0, sz := 16 })], _, _, _, ⟨rfl, rfl, rfl⟩, .of (argmNew n') (by simp), rfl, rfl, (fun W R ρ0 own0 hown => noSums (by kernel_rfl)), gmNew n'.val  hv⟩
  · cases hr
def krNew : List SVal → Nat → Acc ORes := fun a n => match a with | [.int .i64 n'] => .ret (newR n (.ptr 0 0) ([(0, .cells [.own 1]), (1, .recs .u32 (List.replicate (n'.val * 16).toNat 0))]) 2 (some (1 ≤ n'.val ∧ n'.val ≤ 1024))) | _ => .fail "rNew"
theorem argrNew (n' : SI) : (all (subL tAtN none' [] deep [.int .i64 n'] [.int .i64 (.full n'.val)])) = (
  SI.val n' = SI.val n') := by kernel_rfl
abbrev TrNew (gl : List (Nat × SVal)) (n : Int) : Prop := Tr.sat (newQ (env gl []) (.ptr 0 0) ([(0, .cells [.own 1]), (1, .recs .u32 (List.replicate (n * 16).toNat 0))]) 2) (run (env gl []) [(1000000, cutL { fr := [(0, .int .i64 (.sym n 1 1024))], hp := [], next := 0, sz := 8 })] (bodyOf Tryz.f19) (start [.int .i64 (.full n)] 8) (ends (env gl []) Tryz.f19.results.toList))
theorem runrNew (gl : List (Nat × SVal)) (n : Int) : (TrNew gl n) = (
  RQ (n = n ∧ (1 : Int) ≤ n ∧ n ≤ 1024) (RQ ((0 : Int) ≤ (16 : Int) * n ∧ (16 : Int) * n ≤ 16 * n ∧ (16 : Int) * n ≤ 137438953472) (List.replicate (Int.toNat ((16 : Int) * n)) (RT.dflt RT.u32) = List.replicate (Int.toNat (n * 16)) (0 : RT.ty RT.u32)))) := by kernel_rfl
theorem grNew (n : Int)  (hv : 1 ≤ n ∧ n ≤ 1024) : Box (TrNew gl n) := by
  refine .of (runrNew gl n) ?_
  exact ⟨⟨rfl, hv⟩, fun _ => ⟨by omega, fun _ => by rw [Int.mul_comm]; rfl⟩⟩
theorem crNew : Con ea has gl 19 krNew := by
  refine new_mkB Tryz.func19 8 (con := []) trivial (fun hA hr hv => ?_) (by kernel_rfl) (by kernel_rfl) Tryz.ntmps19
  unfold krNew at hr; split at hr
  · rename_i n'
    have := ret_ok hr; subst this
    replace hv := hv _ rfl
    exact ⟨_, [(1000000, cutL { fr := [(0, .int .i64 (.sym n'.val 1 1024))], hp := [], next := 0, sz := 8 })], _, _, _, ⟨rfl, rfl, rfl⟩, .of (argrNew n') (by simp), rfl, rfl, (fun W R ρ0 own0 hown => noSums (by kernel_rfl)), grNew n'.val  hv⟩
  · cases hr
def kmClone0 : List SVal → Nat → Acc ORes := fun a n => match a with | [.rop [.ro .u32 l]] => .ret (newR n (.ptr 0 0) ([(0, .cells [.own 1]), (1, .recs .u32 l)]) 2 (some (few l))) | _ => .fail "mClone0"
theorem argmClone0 (l : List Int) : (all (subL tAtN none' [] deep [.rop [.ro .u32 l]] [.rop [.ro .u32 l]])) = (
  l = l) := by kernel_rfl
abbrev TmClone0 (gl : List (Nat × SVal)) (l : List Int) : Prop := Tr.sat (newQ (env gl [(57, kCloneW)]) (.ptr 0 0) ([(0, .cells [.own 1]), (1, .recs .u32 l)]) 2) (run (env gl [(57, kCloneW)]) [] (bodyOf Tryz.f24) (start [.rop [.ro .u32 l]] 10) (ends (env gl [(57, kCloneW)]) Tryz.f24.results.toList))
theorem runmClone0 (gl : List (Nat × SVal)) (l : List Int) : (TmClone0 gl l) = (
  RQ (List.length l ≤ 137438953472) (l = l)) := by kernel_rfl
theorem gmClone0 (l : List Int)  (hv : few l) : Box (TmClone0 gl l) := by
  refine .of (runmClone0 gl l) ?_
  unfold few at hv; exact ⟨by omega, fun _ => rfl⟩
theorem cmClone0 : Con ea has gl 24 kmClone0 := by
  refine new_mkB Tryz.func24 10 (con := [(57, kCloneW)]) ⟨cCloneW, trivial⟩ (fun hA hr hv => ?_) (by kernel_rfl) (by kernel_rfl) Tryz.ntmps24
  unfold kmClone0 at hr; split at hr
  · rename_i l
    have := ret_ok hr; subst this
    replace hv := hv _ rfl
    exact ⟨_, [], _, _, _, ⟨rfl, rfl, rfl⟩, .of (argmClone0 l) (by simp), rfl, rfl, (fun W R ρ0 own0 hown => noSums (by kernel_rfl)), gmClone0 l  hv⟩
  · cases hr
abbrev kmClone := borN [.box [.ro .u32]] kmClone0
theorem cmClone : Con ea has gl 24 kmClone := borN_ok cmClone0 _
def krClone0 : List SVal → Nat → Acc ORes := fun a n => match a with | [.rop [.ro .u32 l]] => .ret (newR n (.ptr 0 0) ([(0, .cells [.own 1]), (1, .recs .u32 l)]) 2 (some (few l))) | _ => .fail "rClone0"
theorem argrClone0 (l : List Int) : (all (subL tAtN none' [] deep [.rop [.ro .u32 l]] [.rop [.ro .u32 l]])) = (
  l = l) := by kernel_rfl
abbrev TrClone0 (gl : List (Nat × SVal)) (l : List Int) : Prop := Tr.sat (newQ (env gl [(60, kWordsN)]) (.ptr 0 0) ([(0, .cells [.own 1]), (1, .recs .u32 l)]) 2) (run (env gl [(60, kWordsN)]) [] (bodyOf Tryz.f27) (start [.rop [.ro .u32 l]] 10) (ends (env gl [(60, kWordsN)]) Tryz.f27.results.toList))
theorem runrClone0 (gl : List (Nat × SVal)) (l : List Int) : (TrClone0 gl l) = (
  RQ (List.length l ≤ 1000000) (l = l)) := by kernel_rfl
theorem grClone0 (l : List Int)  (hv : few l) : Box (TrClone0 gl l) := by
  refine .of (runrClone0 gl l) ?_
  unfold few at hv; exact ⟨by omega, fun _ => rfl⟩
theorem crClone0 : Con ea has gl 27 krClone0 := by
  refine new_mkB Tryz.func27 10 (con := [(60, kWordsN)]) ⟨cWordsN, trivial⟩ (fun hA hr hv => ?_) (by kernel_rfl) (by kernel_rfl) Tryz.ntmps27
  unfold krClone0 at hr; split at hr
  · rename_i l
    have := ret_ok hr; subst this
    replace hv := hv _ rfl
    exact ⟨_, [], _, _, _, ⟨rfl, rfl, rfl⟩, .of (argrClone0 l) (by simp), rfl, rfl, (fun W R ρ0 own0 hown => noSums (by kernel_rfl)), grClone0 l  hv⟩
  · cases hr
abbrev krClone := borN [.box [.ro .u32]] krClone0
theorem crClone : Con ea has gl 27 krClone := borN_ok crClone0 _
def kmPress : List SVal → Nat → Acc ORes := fun a n => match a with
  | [.ptr q 0, .int .u32 y] => .look q fun cc => match cc with | some (.cells [.own k, .arr .u32 16 sc, .bool on, .int .i64 at_, .own e]) => (.look e fun cc => match cc with | some (.recs (.flat (.int .i64) [.int .u32, .int .u32]) se) => (.look k fun cc => match cc with | some (.recs .u32 ks) => (match nodupB [q, e, k] with | true => .ret (genR [q, e] (gone [k]) n (.bool (.sym (dPressB (dV ks sc on at_ se)))) ([(0, .cells (dCells 2 1 (dPress (dV ks sc on at_ se) y.val))), (1, .recs seenT (dPress (dV ks sc on at_ se) y.val).seen), (2, .recs .u32 (dPress (dV ks sc on at_ se) y.val).keys)]) 1) | false => .fail "mPress") | _ => .fail "mPress") | _ => .fail "mPress") | _ => .fail "mPress"
  | _ => .fail "mPress"
theorem fitmPress (gl : List (Nat × SVal)) (y : SI) (sc : List Int) (on : SB) (at_ : SI) (ks : List Int) (se : List (Int × Int × Int)) : (fits (envK gl [] 2) (S1 [.ptr 0 0, .int .u32 y] (numC 0 [.cells [.own 2, .arr .u32 16 sc, .bool on, .int .i64 at_, .own 1], .recs (.flat (.int .i64) [.int .u32, .int .u32]) se, .recs .u32 ks]) 3 21) (S1 [.ptr 0 0, .int .u32 (.full y.val)] [(0, some (.cells (dCells 2 1 (dV ks sc on at_ se)))), (1, some (.recs seenT (dV ks sc on at_ se).seen)), (2, some (.recs .u32 (dV ks sc on at_ se).keys))] 3 21)) = (
  SI.val y = SI.val y ∧ sc = sc ∧ SB.val on = SB.val on ∧ SI.val at_ = SI.val at_ ∧ se = se ∧ ks = ks) := by kernel_rfl
abbrev TmPress (gl : List (Nat × SVal)) (y : Int) (d : Dv) : Prop := Tr.sat (newQ (envK gl [] 2) (.bool (.sym (dPressB d))) ([(0, .cells (dCells 2 1 (dPress d y))), (1, .recs seenT (dPress d y).seen), (2, .recs .u32 (dPress d y).keys)]) (2 + 1)) (run (envK gl [] 2) [] (bodyOf Tryz.f28) (S1 [.ptr 0 0, .int .u32 (.full y)] [(0, some (.cells (dCells 2 1 d))), (1, some (.recs seenT d.seen)), (2, some (.recs .u32 d.keys))] 3 21) (ends (envK gl [] 2) Tryz.f28.results.toList))
theorem runmPress (gl : List (Nat × SVal)) (y : Int) (d : Dv) : (TmPress gl y d) = (
  IT (decide ((64 : Int) ≤ ((List.length d.keys) : Int))) (false = dPressB d ∧ d.sec = (dPress d y).sec ∧ d.on = (dPress d y).on ∧ d.at_ = (dPress d y).at_ ∧ d.seen = (dPress d y).seen ∧ d.keys = (dPress d y).keys) (RQ (List.length d.keys + List.length [y] ≤ 137438953472) (true = dPressB d ∧ d.sec = (dPress d y).sec ∧ d.on = (dPress d y).on ∧ d.at_ = (dPress d y).at_ ∧ d.seen = (dPress d y).seen ∧ d.keys ++ [y] = (dPress d y).keys))) := by kernel_rfl
theorem gmPress (y : Int) (d : Dv)  : Box (TmPress gl y d) := by
  refine .of (runmPress gl y d) ?_
  unfold dPress dPressB
  refine ⟨fun h => ?_, fun h => ?_⟩
  · have h := of_decide_eq_true h
    simp [h]
  · have h := of_decide_eq_false h
    simp only [List.length_singleton]
    exact ⟨by omega, fun _ => by simp [h]⟩
theorem cmPress : Con ea has gl 28 kmPress := by
  refine gen_mk Tryz.func28 21 2 (con := []) trivial (fun hA hr hv => ?_) (by kernel_rfl) (by kernel_rfl) Tryz.ntmps28
  unfold kmPress at hr; split at hr
  · rename_i q y
    simp only [Acc.run] at hr
    split at hr
    · rename_i k sc on at_ e hq
      simp only [Acc.run] at hr
      split at hr
      · rename_i se he
        simp only [Acc.run] at hr
        split at hr
        · rename_i ks hk
          split at hr
          · rename_i hnd
            have := ret_ok hr; subst this
            refine ⟨[q, e], [k], [.cells [.own 2, .arr .u32 16 sc, .bool on, .int .i64 at_, .own 1], .recs (.flat (.int .i64) [.int .u32, .int .u32]) se, .recs .u32 ks], [.ptr 0 0, .int .u32 y], (S1 [.ptr 0 0, .int .u32 (.full y.val)] [(0, some (.cells (dCells 2 1 (dV ks sc on at_ se)))), (1, some (.recs seenT (dV ks sc on at_ se).seen)), (2, some (.recs .u32 (dV ks sc on at_ se).keys))] 3 21), [], .bool (.sym (dPressB (dV ks sc on at_ se))), [(0, .cells (dCells 2 1 (dPress (dV ks sc on at_ se) y.val))), (1, .recs seenT (dPress (dV ks sc on at_ se) y.val).seen), (2, .recs .u32 (dPress (dV ks sc on at_ se) y.val).keys)], 1, rfl, rfl, ⟨rfl, rfl, rfl⟩, hnd, ⟨hq, he, hk, trivial⟩, rfl, rfl, .of (fitmPress gl y sc on at_ ks se) (by simp [nilR]), rfl, (fun W R ρ0 own0 hown => noSums (by kernel_rfl)), gmPress y.val ⟨ks, sc, on.val, at_.val, se⟩⟩
          · cases hr
        · cases hr
      · cases hr
    · cases hr
  · cases hr
def kmIn : List SVal → Nat → Acc ORes := fun a n => match a with
  | [.ptr q 0] => .look q fun cc => match cc with | some (.cells [.own k, .arr .u32 16 sc, .bool on, .int .i64 at_, .own e]) => (.look e fun cc => match cc with | some (.recs (.flat (.int .i64) [.int .u32, .int .u32]) se) => (.look k fun cc => match cc with | some (.recs .u32 ks) => (match nodupB [q, e, k] with | true => .ret (genR [q, e] (gone [k]) n (.int .u32 (.full (dInW (dV ks sc on at_ se)))) ([(0, .cells (dCells 2 1 (dIn (dV ks sc on at_ se)))), (1, .recs seenT (dIn (dV ks sc on at_ se)).seen), (2, .recs .u32 (dIn (dV ks sc on at_ se)).keys)]) 1 (some (few (dV ks sc on at_ se).keys))) | false => .fail "mIn") | _ => .fail "mIn") | _ => .fail "mIn") | _ => .fail "mIn"
  | _ => .fail "mIn"
theorem fitmIn (gl : List (Nat × SVal)) (sc : List Int) (on : SB) (at_ : SI) (ks : List Int) (se : List (Int × Int × Int)) : (fits (envK gl [(57, kCloneW)] 2) (S1 [.ptr 0 0] (numC 0 [.cells [.own 2, .arr .u32 16 sc, .bool on, .int .i64 at_, .own 1], .recs (.flat (.int .i64) [.int .u32, .int .u32]) se, .recs .u32 ks]) 3 26) (S1 [.ptr 0 0] [(0, some (.cells (dCells 2 1 (dV ks sc on at_ se)))), (1, some (.recs seenT (dV ks sc on at_ se).seen)), (2, some (.recs .u32 (dV ks sc on at_ se).keys))] 3 26)) = (
  sc = sc ∧ SB.val on = SB.val on ∧ SI.val at_ = SI.val at_ ∧ se = se ∧ ks = ks) := by kernel_rfl
abbrev TmIn (gl : List (Nat × SVal)) (d : Dv) : Prop := Tr.sat (newQ (envK gl [(57, kCloneW)] 2) (.int .u32 (.full (dInW d))) ([(0, .cells (dCells 2 1 (dIn d))), (1, .recs seenT (dIn d).seen), (2, .recs .u32 (dIn d).keys)]) (2 + 1)) (run (envK gl [(57, kCloneW)] 2) [] (bodyOf Tryz.f122) (S1 [.ptr 0 0] [(0, some (.cells (dCells 2 1 d))), (1, some (.recs seenT d.seen)), (2, some (.recs .u32 d.keys))] 3 26) (ends (envK gl [(57, kCloneW)] 2) Tryz.f122.results.toList))
theorem runmIn (gl : List (Nat × SVal)) (d : Dv) : (TmIn gl d) = (
  IT (decide (((List.length d.keys) : Int) = 0)) ((0 : Int) = dInW d ∧ d.sec = (dIn d).sec ∧ d.on = (dIn d).on ∧ d.at_ = (dIn d).at_ ∧ d.seen = (dIn d).seen ∧ d.keys = (dIn d).keys) (RQ ((0 : Int) ≤ (0 : Int) ∧ 0 < ((List.length d.keys) : Int)) (RQ ((0 : Int) ≤ (1 : Int) ∧ (1 : Int) ≤ ((List.length d.keys) : Int)) (RQ (List.length (List.take (List.length d.keys - Int.toNat (1 : Int)) (List.drop (Int.toNat (1 : Int)) d.keys)) ≤ 137438953472) (List.getD d.keys (Int.toNat (0 : Int)) (RT.dflt RT.u32) = dInW d ∧ d.sec = (dIn d).sec ∧ d.on = (dIn d).on ∧ d.at_ = (dIn d).at_ ∧ d.seen = (dIn d).seen ∧ List.take (List.length d.keys - Int.toNat (1 : Int)) (List.drop (Int.toNat (1 : Int)) d.keys) = (dIn d).keys))))) := by kernel_rfl
theorem gmIn (d : Dv) (hv : few d.keys) : Box (TmIn gl d) := by
  refine .of (runmIn gl d) ?_
  unfold few at hv
  refine ⟨fun h => ?_, fun h => ?_⟩
  · have h := of_decide_eq_true h
    have e : d.keys = [] := List.eq_nil_of_length_eq_zero (by omega)
    simp [dInW, dIn, e]
  · have h := of_decide_eq_false h
    have e : (d.keys.drop (Int.toNat 1)).take (d.keys.length - Int.toNat 1) = d.keys.drop 1 := by rw [List.take_of_length_le (by simp)]; rfl
    rw [e]
    exact ⟨by omega, fun _ => ⟨by omega, fun _ => ⟨by rw [List.length_drop]; omega, fun _ => ⟨rfl, rfl, rfl, rfl, rfl, rfl⟩⟩⟩⟩
theorem cmIn : Con ea has gl 122 kmIn := by
  refine gen_mk Tryz.func122 26 2 (con := [(57, kCloneW)]) ⟨cCloneW, trivial⟩ (fun hA hr hv => ?_) (by kernel_rfl) (by kernel_rfl) Tryz.ntmps122
  unfold kmIn at hr; split at hr
  · rename_i q
    simp only [Acc.run] at hr
    split at hr
    · rename_i k sc on at_ e hq
      simp only [Acc.run] at hr
      split at hr
      · rename_i se he
        simp only [Acc.run] at hr
        split at hr
        · rename_i ks hk
          split at hr
          · rename_i hnd
            have := ret_ok hr; subst this
            refine ⟨[q, e], [k], [.cells [.own 2, .arr .u32 16 sc, .bool on, .int .i64 at_, .own 1], .recs (.flat (.int .i64) [.int .u32, .int .u32]) se, .recs .u32 ks], [.ptr 0 0], (S1 [.ptr 0 0] [(0, some (.cells (dCells 2 1 (dV ks sc on at_ se)))), (1, some (.recs seenT (dV ks sc on at_ se).seen)), (2, some (.recs .u32 (dV ks sc on at_ se).keys))] 3 26), [], .int .u32 (.full (dInW (dV ks sc on at_ se))), [(0, .cells (dCells 2 1 (dIn (dV ks sc on at_ se)))), (1, .recs seenT (dIn (dV ks sc on at_ se)).seen), (2, .recs .u32 (dIn (dV ks sc on at_ se)).keys)], 1, rfl, rfl, ⟨rfl, rfl, rfl⟩, hnd, ⟨hq, he, hk, trivial⟩, rfl, rfl, .of (fitmIn gl sc on at_ ks se) (by simp [nilR]), rfl, (fun W R ρ0 own0 hown => noSums (by kernel_rfl)), gmIn ⟨ks, sc, on.val, at_.val, se⟩ (hv _ rfl)⟩
          · cases hr
        · cases hr
      · cases hr
    · cases hr
  · cases hr
def kmOut : List SVal → Nat → Acc ORes := fun a n => match a with
  | [.ptr q 0, .int .u32 y] => .look q fun cc => match cc with | some (.cells [.own k, .arr .u32 16 sc, .bool on, .int .i64 at_, .own e]) => (.look k fun cc => match cc with | some (.recs .u32 ks) => (.look e fun cc => match cc with | some (.recs (.flat (.int .i64) [.int .u32, .int .u32]) se) => (match nodupB [q, k, e] with | true => .ret (genR [q, k] (gone [e]) n (.tuple []) ([(0, .cells (dCells 1 2 (dOut (dV ks sc on at_ se) y.val))), (1, .recs .u32 (dOut (dV ks sc on at_ se) y.val).keys), (2, .recs seenT (dOut (dV ks sc on at_ se) y.val).seen)]) 1 (some (few (dV ks sc on at_ se).seen))) | false => .fail "mOut") | _ => .fail "mOut") | _ => .fail "mOut") | _ => .fail "mOut"
  | _ => .fail "mOut"
theorem fitmOut (gl : List (Nat × SVal)) (y : SI) (sc : List Int) (on : SB) (at_ : SI) (ks : List Int) (se : List (Int × Int × Int)) : (fits (envK gl [] 2) (S1 [.ptr 0 0, .int .u32 y] (numC 0 (dC0 ks sc on at_ se)) 3 15) (S1 [.ptr 0 0, .int .u32 (.full y.val)] [(0, some (.cells (dCells 1 2 (dV ks sc on at_ se)))), (1, some (.recs .u32 (dV ks sc on at_ se).keys)), (2, some (.recs seenT (dV ks sc on at_ se).seen))] 3 15)) = (
  SI.val y = SI.val y ∧ sc = sc ∧ SB.val on = SB.val on ∧ SI.val at_ = SI.val at_ ∧ ks = ks ∧ se = se) := by kernel_rfl
abbrev TmOut (gl : List (Nat × SVal)) (y : Int) (d : Dv) : Prop := Tr.sat (newQ (envK gl [] 2) (.tuple []) ([(0, .cells (dCells 1 2 (dOut d y))), (1, .recs .u32 (dOut d y).keys), (2, .recs seenT (dOut d y).seen)]) (2 + 1)) (run (envK gl [] 2) [] (bodyOf Tryz.f121) (S1 [.ptr 0 0, .int .u32 (.full y)] [(0, some (.cells (dCells 1 2 d))), (1, some (.recs .u32 d.keys)), (2, some (.recs seenT d.seen))] 3 15) (ends (envK gl [] 2) Tryz.f121.results.toList))
theorem runmOut (gl : List (Nat × SVal)) (y : Int) (d : Dv) : (TmOut gl y d) = (
  RQ (List.length d.seen + List.length [((1 : Int), (0 : Int), y)] ≤ 137438953472) (d.sec = (dOut d y).sec ∧ d.on = (dOut d y).on ∧ d.at_ = (dOut d y).at_ ∧ d.keys = (dOut d y).keys ∧ d.seen ++ [((1 : Int), (0 : Int), y)] = (dOut d y).seen)) := by kernel_rfl
theorem gmOut (y : Int) (d : Dv) (hv : few d.seen) : Box (TmOut gl y d) := by
  refine .of (runmOut gl y d) ?_
  unfold few at hv
  exact ⟨by simp only [List.length_singleton]; omega, fun _ => ⟨rfl, rfl, rfl, rfl, rfl⟩⟩
theorem cmOut : Con ea has gl 121 kmOut := by
  refine gen_mk Tryz.func121 15 2 (con := []) trivial (fun hA hr hv => ?_) (by kernel_rfl) (by kernel_rfl) Tryz.ntmps121
  unfold kmOut at hr; split at hr
  · rename_i q y
    simp only [Acc.run] at hr
    split at hr
    · rename_i k sc on at_ e hq
      simp only [Acc.run] at hr
      split at hr
      · rename_i ks hk
        simp only [Acc.run] at hr
        split at hr
        · rename_i se he
          split at hr
          · rename_i hnd
            have := ret_ok hr; subst this
            refine ⟨[q, k], [e], (dC0 ks sc on at_ se), [.ptr 0 0, .int .u32 y], (S1 [.ptr 0 0, .int .u32 (.full y.val)] [(0, some (.cells (dCells 1 2 (dV ks sc on at_ se)))), (1, some (.recs .u32 (dV ks sc on at_ se).keys)), (2, some (.recs seenT (dV ks sc on at_ se).seen))] 3 15), [], .tuple [], [(0, .cells (dCells 1 2 (dOut (dV ks sc on at_ se) y.val))), (1, .recs .u32 (dOut (dV ks sc on at_ se) y.val).keys), (2, .recs seenT (dOut (dV ks sc on at_ se) y.val).seen)], 1, rfl, rfl, ⟨rfl, rfl, rfl⟩, hnd, ⟨hq, hk, he, trivial⟩, rfl, rfl, .of (fitmOut gl y sc on at_ ks se) (by simp [nilR]), rfl, (fun W R ρ0 own0 hown => noSums (by kernel_rfl)), gmOut y.val ⟨ks, sc, on.val, at_.val, se⟩ (hv _ rfl)⟩
          · cases hr
        · cases hr
      · cases hr
    · cases hr
  · cases hr
def kmPut : List SVal → Nat → Acc ORes := fun a n => match a with
  | [.ptr q 0, .int .u32 y, .int .u32 z] => .look q fun cc => match cc with | some (.cells [.own k, .arr .u32 16 sc, .bool on, .int .i64 at_, .own e]) => (.look k fun cc => match cc with | some (.recs .u32 ks) => (.look e fun cc => match cc with | some (.recs (.flat (.int .i64) [.int .u32, .int .u32]) se) => (match nodupB [q, k, e] with | true => .ret (genR [q, k] (gone [e]) n (.tuple []) ([(0, .cells (dCells 1 2 (dPut (dV ks sc on at_ se) y.val z.val))), (1, .recs .u32 (dPut (dV ks sc on at_ se) y.val z.val).keys), (2, .recs seenT (dPut (dV ks sc on at_ se) y.val z.val).seen)]) 1 (some (few (dV ks sc on at_ se).seen))) | false => .fail "mPut") | _ => .fail "mPut") | _ => .fail "mPut") | _ => .fail "mPut"
  | _ => .fail "mPut"
theorem fitmPut (gl : List (Nat × SVal)) (y z : SI) (sc : List Int) (on : SB) (at_ : SI) (ks : List Int) (se : List (Int × Int × Int)) : (fits (envK gl [] 2) (S1 [.ptr 0 0, .int .u32 y, .int .u32 z] (numC 0 (dC0 ks sc on at_ se)) 3 26) (S1 [.ptr 0 0, .int .u32 (.full y.val), .int .u32 (.full z.val)] [(0, some (.cells (dCells 1 2 (dV ks sc on at_ se)))), (1, some (.recs .u32 (dV ks sc on at_ se).keys)), (2, some (.recs seenT (dV ks sc on at_ se).seen))] 3 26)) = (
  SI.val y = SI.val y ∧ SI.val z = SI.val z ∧ sc = sc ∧ SB.val on = SB.val on ∧ SI.val at_ = SI.val at_ ∧ ks = ks ∧ se = se) := by kernel_rfl
abbrev TmPut (gl : List (Nat × SVal)) (y z : Int) (d : Dv) : Prop := Tr.sat (newQ (envK gl [] 2) (.tuple []) ([(0, .cells (dCells 1 2 (dPut d y z))), (1, .recs .u32 (dPut d y z).keys), (2, .recs seenT (dPut d y z).seen)]) (2 + 1)) (run (envK gl [] 2) [] (bodyOf Tryz.f123) (S1 [.ptr 0 0, .int .u32 (.full y), .int .u32 (.full z)] [(0, some (.cells (dCells 1 2 d))), (1, some (.recs .u32 d.keys)), (2, some (.recs seenT d.seen))] 3 26) (ends (envK gl [] 2) Tryz.f123.results.toList))
theorem runmPut (gl : List (Nat × SVal)) (y z : Int) (d : Dv) : (TmPut gl y z d) = (
  RQ (0 ≤ y % Int.ofNat (nat_lit 15 + (1 : Nat)) ∧ y % Int.ofNat (nat_lit 15 + (1 : Nat)) < ((16 : Nat) : Int)) (RQ (List.length d.seen + List.length [((2 : Int), y % Int.ofNat (nat_lit 15 + (1 : Nat)), z)] ≤ 137438953472) (List.set d.sec (Int.toNat (y % Int.ofNat (nat_lit 15 + (1 : Nat)))) z = (dPut d y z).sec ∧ d.on = (dPut d y z).on ∧ d.at_ = (dPut d y z).at_ ∧ d.keys = (dPut d y z).keys ∧ d.seen ++ [((2 : Int), y % Int.ofNat (nat_lit 15 + (1 : Nat)), z)] = (dPut d y z).seen))) := by kernel_rfl
theorem gmPut (y z : Int) (d : Dv) (hv : few d.seen) : Box (TmPut gl y z d) := by
  refine .of (runmPut gl y z d) ?_
  unfold few at hv
  have o16 : Int.ofNat (15 + 1) = 16 := rfl
  rw [o16]
  exact ⟨by omega, fun _ => ⟨by simp only [List.length_singleton]; omega, fun _ => ⟨rfl, rfl, rfl, rfl, rfl⟩⟩⟩
theorem cmPut : Con ea has gl 123 kmPut := by
  refine gen_mk Tryz.func123 26 2 (con := []) trivial (fun hA hr hv => ?_) (by kernel_rfl) (by kernel_rfl) Tryz.ntmps123
  unfold kmPut at hr; split at hr
  · rename_i q y z
    simp only [Acc.run] at hr
    split at hr
    · rename_i k sc on at_ e hq
      simp only [Acc.run] at hr
      split at hr
      · rename_i ks hk
        simp only [Acc.run] at hr
        split at hr
        · rename_i se he
          split at hr
          · rename_i hnd
            have := ret_ok hr; subst this
            refine ⟨[q, k], [e], (dC0 ks sc on at_ se), [.ptr 0 0, .int .u32 y, .int .u32 z], (S1 [.ptr 0 0, .int .u32 (.full y.val), .int .u32 (.full z.val)] [(0, some (.cells (dCells 1 2 (dV ks sc on at_ se)))), (1, some (.recs .u32 (dV ks sc on at_ se).keys)), (2, some (.recs seenT (dV ks sc on at_ se).seen))] 3 26), [], .tuple [], [(0, .cells (dCells 1 2 (dPut (dV ks sc on at_ se) y.val z.val))), (1, .recs .u32 (dPut (dV ks sc on at_ se) y.val z.val).keys), (2, .recs seenT (dPut (dV ks sc on at_ se) y.val z.val).seen)], 1, rfl, rfl, ⟨rfl, rfl, rfl⟩, hnd, ⟨hq, hk, he, trivial⟩, rfl, rfl, .of (fitmPut gl y z sc on at_ ks se) (by simp [nilR]), rfl, (fun W R ρ0 own0 hown => noSums (by kernel_rfl)), gmPut y.val z.val ⟨ks, sc, on.val, at_.val, se⟩ (hv _ rfl)⟩
          · cases hr
        · cases hr
      · cases hr
    · cases hr
  · cases hr
def kmSet : List SVal → Nat → Acc ORes := fun a n => match a with
  | [.ptr q 0, .int .i64 y, .int .u32 z] => .look q fun cc => match cc with | some (.cells [.own k, .arr .u32 16 sc, .bool on, .int .i64 at_, .own e]) => (.look k fun cc => match cc with | some (.recs .u32 ks) => (.look e fun cc => match cc with | some (.recs (.flat (.int .i64) [.int .u32, .int .u32]) se) => (match nodupB [q, k, e] with | true => .ret (genR [q, k, e] (gone []) n (.tuple []) ([(0, .cells (dCells 1 2 (dSet true (dV ks sc on at_ se) y.val z.val))), (1, .recs .u32 (dSet true (dV ks sc on at_ se) y.val z.val).keys), (2, .recs seenT (dSet true (dV ks sc on at_ se) y.val z.val).seen)]) 0) | false => .fail "mSet") | _ => .fail "mSet") | _ => .fail "mSet") | _ => .fail "mSet"
  | _ => .fail "mSet"
theorem fitmSet (gl : List (Nat × SVal)) (y z : SI) (sc : List Int) (on : SB) (at_ : SI) (ks : List Int) (se : List (Int × Int × Int)) : (fits (envK gl [] 3) (S1 [.ptr 0 0, .int .i64 y, .int .u32 z] (numC 0 (dC0 ks sc on at_ se)) 3 25) (S1 [.ptr 0 0, .int .i64 (.full y.val), .int .u32 (.full z.val)] [(0, some (.cells (dCells 1 2 (dV ks sc on at_ se)))), (1, some (.recs .u32 (dV ks sc on at_ se).keys)), (2, some (.recs seenT (dV ks sc on at_ se).seen))] 3 25)) = (
  SI.val y = SI.val y ∧ SI.val z = SI.val z ∧ sc = sc ∧ SB.val on = SB.val on ∧ SI.val at_ = SI.val at_ ∧ ks = ks ∧ se = se) := by kernel_rfl
abbrev TmSet (gl : List (Nat × SVal)) (y z : Int) (d : Dv) : Prop := Tr.sat (newQ (envK gl [] 3) (.tuple []) ([(0, .cells (dCells 1 2 (dSet true d y z))), (1, .recs .u32 (dSet true d y z).keys), (2, .recs seenT (dSet true d y z).seen)]) (3 + 0)) (run (envK gl [] 3) [] (bodyOf Tryz.f125) (S1 [.ptr 0 0, .int .i64 (.full y), .int .u32 (.full z)] [(0, some (.cells (dCells 1 2 d))), (1, some (.recs .u32 d.keys)), (2, some (.recs seenT d.seen))] 3 25) (ends (envK gl [] 3) Tryz.f125.results.toList))
theorem runmSet (gl : List (Nat × SVal)) (y z : Int) (d : Dv) : (TmSet gl y z d) = (
  IT (decide (0 < z)) (d.sec = (dSet true d y z).sec ∧ decide (0 < z) = (dSet true d y z).on ∧ IntKind.wrap IntKind.i64 (y + z) = (dSet true d y z).at_ ∧ d.keys = (dSet true d y z).keys ∧ d.seen = (dSet true d y z).seen) (d.sec = (dSet true d y z).sec ∧ decide (0 < z) = (dSet true d y z).on ∧ (0 : Int) = (dSet true d y z).at_ ∧ d.keys = (dSet true d y z).keys ∧ d.seen = (dSet true d y z).seen)) := by kernel_rfl
theorem gmSet (y z : Int) (d : Dv)  : Box (TmSet gl y z d) := by
  refine .of (runmSet gl y z d) ?_
  unfold dSet
  refine ⟨fun h => ?_, fun h => ?_⟩
  · have h := of_decide_eq_true h
    simp [h]
  · have h := of_decide_eq_false h
    simp [h]
theorem cmSet : Con ea has gl 125 kmSet := by
  refine gen_mk Tryz.func125 25 3 (con := []) trivial (fun hA hr hv => ?_) (by kernel_rfl) (by kernel_rfl) Tryz.ntmps125
  unfold kmSet at hr; split at hr
  · rename_i q y z
    simp only [Acc.run] at hr
    split at hr
    · rename_i k sc on at_ e hq
      simp only [Acc.run] at hr
      split at hr
      · rename_i ks hk
        simp only [Acc.run] at hr
        split at hr
        · rename_i se he
          split at hr
          · rename_i hnd
            have := ret_ok hr; subst this
            refine ⟨[q, k, e], [], (dC0 ks sc on at_ se), [.ptr 0 0, .int .i64 y, .int .u32 z], (S1 [.ptr 0 0, .int .i64 (.full y.val), .int .u32 (.full z.val)] [(0, some (.cells (dCells 1 2 (dV ks sc on at_ se)))), (1, some (.recs .u32 (dV ks sc on at_ se).keys)), (2, some (.recs seenT (dV ks sc on at_ se).seen))] 3 25), [], .tuple [], [(0, .cells (dCells 1 2 (dSet true (dV ks sc on at_ se) y.val z.val))), (1, .recs .u32 (dSet true (dV ks sc on at_ se) y.val z.val).keys), (2, .recs seenT (dSet true (dV ks sc on at_ se) y.val z.val).seen)], 0, rfl, rfl, ⟨rfl, rfl, rfl⟩, hnd, ⟨hq, hk, he, trivial⟩, rfl, rfl, .of (fitmSet gl y z sc on at_ ks se) (by simp [nilR]), rfl, (fun W R ρ0 own0 hown => noSums (by kernel_rfl)), gmSet y.val z.val ⟨ks, sc, on.val, at_.val, se⟩⟩
          · cases hr
        · cases hr
      · cases hr
    · cases hr
  · cases hr
def kmRang : List SVal → Nat → Acc ORes := fun a n => match a with
  | [.ptr q 0] => .look q fun cc => match cc with | some (.cells [.own k, .arr .u32 16 sc, .bool on, .int .i64 at_, .own e]) => (.look k fun cc => match cc with | some (.recs .u32 ks) => (.look e fun cc => match cc with | some (.recs (.flat (.int .i64) [.int .u32, .int .u32]) se) => (match nodupB [q, k, e] with | true => .ret (genR [q, k, e] (gone []) n (.tuple []) ([(0, .cells (dCells 1 2 (dRang true (dV ks sc on at_ se)))), (1, .recs .u32 (dRang true (dV ks sc on at_ se)).keys), (2, .recs seenT (dRang true (dV ks sc on at_ se)).seen)]) 0) | false => .fail "mRang") | _ => .fail "mRang") | _ => .fail "mRang") | _ => .fail "mRang"
  | _ => .fail "mRang"
theorem fitmRang (gl : List (Nat × SVal)) (sc : List Int) (on : SB) (at_ : SI) (ks : List Int) (se : List (Int × Int × Int)) : (fits (envK gl [] 3) (S1 [.ptr 0 0] (numC 0 (dC0 ks sc on at_ se)) 3 8) (S1 [.ptr 0 0] [(0, some (.cells (dCells 1 2 (dV ks sc on at_ se)))), (1, some (.recs .u32 (dV ks sc on at_ se).keys)), (2, some (.recs seenT (dV ks sc on at_ se).seen))] 3 8)) = (
  sc = sc ∧ SB.val on = SB.val on ∧ SI.val at_ = SI.val at_ ∧ ks = ks ∧ se = se) := by kernel_rfl
abbrev TmRang (gl : List (Nat × SVal)) (d : Dv) : Prop := Tr.sat (newQ (envK gl [] 3) (.tuple []) ([(0, .cells (dCells 1 2 (dRang true d))), (1, .recs .u32 (dRang true d).keys), (2, .recs seenT (dRang true d).seen)]) (3 + 0)) (run (envK gl [] 3) [] (bodyOf Tryz.f32) (S1 [.ptr 0 0] [(0, some (.cells (dCells 1 2 d))), (1, some (.recs .u32 d.keys)), (2, some (.recs seenT d.seen))] 3 8) (ends (envK gl [] 3) Tryz.f32.results.toList))
theorem runmRang (gl : List (Nat × SVal)) (d : Dv) : (TmRang gl d) = (
  d.sec = (dRang true d).sec ∧ false = (dRang true d).on ∧ (0 : Int) = (dRang true d).at_ ∧ d.keys = (dRang true d).keys ∧ d.seen = (dRang true d).seen) := by kernel_rfl
theorem gmRang (d : Dv)  : Box (TmRang gl d) := by
  refine .of (runmRang gl d) ?_
  exact ⟨rfl, rfl, rfl, rfl, rfl⟩
theorem cmRang : Con ea has gl 32 kmRang := by
  refine gen_mk Tryz.func32 8 3 (con := []) trivial (fun hA hr hv => ?_) (by kernel_rfl) (by kernel_rfl) Tryz.ntmps32
  unfold kmRang at hr; split at hr
  · rename_i q
    simp only [Acc.run] at hr
    split at hr
    · rename_i k sc on at_ e hq
      simp only [Acc.run] at hr
      split at hr
      · rename_i ks hk
        simp only [Acc.run] at hr
        split at hr
        · rename_i se he
          split at hr
          · rename_i hnd
            have := ret_ok hr; subst this
            refine ⟨[q, k, e], [], (dC0 ks sc on at_ se), [.ptr 0 0], (S1 [.ptr 0 0] [(0, some (.cells (dCells 1 2 (dV ks sc on at_ se)))), (1, some (.recs .u32 (dV ks sc on at_ se).keys)), (2, some (.recs seenT (dV ks sc on at_ se).seen))] 3 8), [], .tuple [], [(0, .cells (dCells 1 2 (dRang true (dV ks sc on at_ se)))), (1, .recs .u32 (dRang true (dV ks sc on at_ se)).keys), (2, .recs seenT (dRang true (dV ks sc on at_ se)).seen)], 0, rfl, rfl, ⟨rfl, rfl, rfl⟩, hnd, ⟨hq, hk, he, trivial⟩, rfl, rfl, .of (fitmRang gl sc on at_ ks se) (by simp [nilR]), rfl, (fun W R ρ0 own0 hown => noSums (by kernel_rfl)), gmRang ⟨ks, sc, on.val, at_.val, se⟩⟩
          · cases hr
        · cases hr
      · cases hr
    · cases hr
  · cases hr
def kmEnd : List SVal → Nat → Acc ORes := fun a n => match a with
  | [.ptr q 0, .int .i64 y, .int .u32 z] => .look q fun cc => match cc with | some (.cells [.own k, .arr .u32 16 sc, .bool on, .int .i64 at_, .own e]) => (.look k fun cc => match cc with | some (.recs .u32 ks) => (.look e fun cc => match cc with | some (.recs (.flat (.int .i64) [.int .u32, .int .u32]) se) => (match nodupB [q, k, e] with | true => .ret (genR [q, k] (gone [e]) n (.tuple []) ([(0, .cells (dCells 1 2 (dEnd (dV ks sc on at_ se) y.val z.val))), (1, .recs .u32 (dEnd (dV ks sc on at_ se) y.val z.val).keys), (2, .recs seenT (dEnd (dV ks sc on at_ se) y.val z.val).seen)]) 1 (some (few (dV ks sc on at_ se).seen))) | false => .fail "mEnd") | _ => .fail "mEnd") | _ => .fail "mEnd") | _ => .fail "mEnd"
  | _ => .fail "mEnd"
theorem fitmEnd (gl : List (Nat × SVal)) (y z : SI) (sc : List Int) (on : SB) (at_ : SI) (ks : List Int) (se : List (Int × Int × Int)) : (fits (envK gl [] 2) (S1 [.ptr 0 0, .int .i64 y, .int .u32 z] (numC 0 (dC0 ks sc on at_ se)) 3 35) (S1 [.ptr 0 0, .int .i64 (.full y.val), .int .u32 (.full z.val)] [(0, some (.cells (dCells 1 2 (dV ks sc on at_ se)))), (1, some (.recs .u32 (dV ks sc on at_ se).keys)), (2, some (.recs seenT (dV ks sc on at_ se).seen))] 3 35)) = (
  SI.val y = SI.val y ∧ SI.val z = SI.val z ∧ sc = sc ∧ SB.val on = SB.val on ∧ SI.val at_ = SI.val at_ ∧ ks = ks ∧ se = se) := by kernel_rfl
abbrev TmEnd (gl : List (Nat × SVal)) (y z : Int) (d : Dv) : Prop := Tr.sat (newQ (envK gl [] 2) (.tuple []) ([(0, .cells (dCells 1 2 (dEnd d y z))), (1, .recs .u32 (dEnd d y z).keys), (2, .recs seenT (dEnd d y z).seen)]) (2 + 1)) (run (envK gl [] 2) [] (bodyOf Tryz.f65) (S1 [.ptr 0 0, .int .i64 (.full y), .int .u32 (.full z)] [(0, some (.cells (dCells 1 2 d))), (1, some (.recs .u32 d.keys)), (2, some (.recs seenT d.seen))] 3 35) (ends (envK gl [] 2) Tryz.f65.results.toList))
theorem runmEnd (gl : List (Nat × SVal)) (y z : Int) (d : Dv) : (TmEnd gl y z d) = (
  IT (decide (y = 3)) (RQ (List.length d.seen + List.length [(y, (0 : Int), z)] ≤ 137438953472) (d.sec = (dEnd d y z).sec ∧ d.on = (dEnd d y z).on ∧ d.at_ = (dEnd d y z).at_ ∧ d.keys = (dEnd d y z).keys ∧ d.seen ++ [(y, (0 : Int), z)] = (dEnd d y z).seen)) (IT (decide (y = 4)) (RQ (List.length d.seen + List.length [(y, z, (0 : Int))] ≤ 137438953472) (d.sec = (dEnd d y z).sec ∧ d.on = (dEnd d y z).on ∧ d.at_ = (dEnd d y z).at_ ∧ d.keys = (dEnd d y z).keys ∧ d.seen ++ [(y, z, (0 : Int))] = (dEnd d y z).seen)) (d.sec = (dEnd d y z).sec ∧ d.on = (dEnd d y z).on ∧ d.at_ = (dEnd d y z).at_ ∧ d.keys = (dEnd d y z).keys ∧ d.seen = (dEnd d y z).seen))) := by kernel_rfl
theorem gmEnd (y z : Int) (d : Dv) (hv : few d.seen) : Box (TmEnd gl y z d) := by
  refine .of (runmEnd gl y z d) ?_
  unfold few at hv
  unfold dEnd
  refine ⟨fun h => ?_, fun h => ⟨fun h2 => ?_, fun h2 => ?_⟩⟩
  · have h := of_decide_eq_true h
    subst h
    exact ⟨by simp only [List.length_singleton]; omega, fun _ => by simp⟩
  · have h2 := of_decide_eq_true h2
    subst h2
    exact ⟨by simp only [List.length_singleton]; omega, fun _ => by simp⟩
  · have h := of_decide_eq_false h
    have h2 := of_decide_eq_false h2
    simp [h, h2]
theorem cmEnd : Con ea has gl 65 kmEnd := by
  refine gen_mk Tryz.func65 35 2 (con := []) trivial (fun hA hr hv => ?_) (by kernel_rfl) (by kernel_rfl) Tryz.ntmps65
  unfold kmEnd at hr; split at hr
  · rename_i q y z
    simp only [Acc.run] at hr
    split at hr
    · rename_i k sc on at_ e hq
      simp only [Acc.run] at hr
      split at hr
      · rename_i ks hk
        simp only [Acc.run] at hr
        split at hr
        · rename_i se he
          split at hr
          · rename_i hnd
            have := ret_ok hr; subst this
            refine ⟨[q, k], [e], (dC0 ks sc on at_ se), [.ptr 0 0, .int .i64 y, .int .u32 z], (S1 [.ptr 0 0, .int .i64 (.full y.val), .int .u32 (.full z.val)] [(0, some (.cells (dCells 1 2 (dV ks sc on at_ se)))), (1, some (.recs .u32 (dV ks sc on at_ se).keys)), (2, some (.recs seenT (dV ks sc on at_ se).seen))] 3 35), [], .tuple [], [(0, .cells (dCells 1 2 (dEnd (dV ks sc on at_ se) y.val z.val))), (1, .recs .u32 (dEnd (dV ks sc on at_ se) y.val z.val).keys), (2, .recs seenT (dEnd (dV ks sc on at_ se) y.val z.val).seen)], 1, rfl, rfl, ⟨rfl, rfl, rfl⟩, hnd, ⟨hq, hk, he, trivial⟩, rfl, rfl, .of (fitmEnd gl y z sc on at_ ks se) (by simp [nilR]), rfl, (fun W R ρ0 own0 hown => noSums (by kernel_rfl)), gmEnd y.val z.val ⟨ks, sc, on.val, at_.val, se⟩ (hv _ rfl)⟩
          · cases hr
        · cases hr
      · cases hr
    · cases hr
  · cases hr
def kmGet0 : List SVal → Nat → Acc ORes := fun a n => match a with | [.rop [.ro .u32 ks, .arr .u32 16 sc, .bool on, .int .i64 at_, .ro (.flat (.int .i64) [.int .u32, .int .u32]) se], .int .u32 y] => .ret ({ v := .int .u32 (.full (dGet (dV ks sc on at_ se) y.val)) }) | _ => .fail "mGet0"
theorem argmGet0 (ks : List Int) (sc : List Int) (on : SB) (at_ : SI) (se : List (Int × Int × Int)) (y : SI) : (all (subL tAtN none' [] deep [.rop [.ro .u32 ks, .arr .u32 16 sc, .bool on, .int .i64 at_, .ro (.flat (.int .i64) [.int .u32, .int .u32]) se], .int .u32 y] [.rop [.ro .u32 (dV ks sc on at_ se).keys, .arr .u32 16 (dV ks sc on at_ se).sec, .bool (.sym (dV ks sc on at_ se).on), .int .i64 (.full (dV ks sc on at_ se).at_), .ro seenT (dV ks sc on at_ se).seen], .int .u32 (.full y.val)])) = (
  ks = ks ∧ sc = sc ∧ SB.val on = SB.val on ∧ SI.val at_ = SI.val at_ ∧ se = se ∧ SI.val y = SI.val y) := by kernel_rfl
abbrev TmGet0 (gl : List (Nat × SVal)) (d : Dv) (y : Int) : Prop := Tr.sat (plainQ (.int .u32 (.full (dGet d y)))) (run (env gl []) [] (bodyOf Tryz.f124) (start [.rop [.ro .u32 d.keys, .arr .u32 16 d.sec, .bool (.sym d.on), .int .i64 (.full d.at_), .ro seenT d.seen], .int .u32 (.full y)] 12) (ends (env gl []) Tryz.f124.results.toList))
theorem runmGet0 (gl : List (Nat × SVal)) (d : Dv) (y : Int) : (TmGet0 gl d y) = (
  RQ (0 ≤ y % Int.ofNat (nat_lit 15 + (1 : Nat)) ∧ y % Int.ofNat (nat_lit 15 + (1 : Nat)) < ((16 : Nat) : Int)) (List.getD d.sec (Int.toNat (y % Int.ofNat (nat_lit 15 + (1 : Nat)))) (RT.dflt RT.u32) = dGet d y)) := by kernel_rfl
theorem gmGet0 (d : Dv) (y : Int)  : Box (TmGet0 gl d y) := by
  refine .of (runmGet0 gl d y) ?_
  have o16 : Int.ofNat (15 + 1) = 16 := rfl
  rw [o16]
  exact ⟨by omega, fun _ => rfl⟩
theorem cmGet0 : Con ea has gl 124 kmGet0 := by
  refine plain_mkB Tryz.func124 12 (con := []) trivial (fun hA hr hv => ?_) (by kernel_rfl) (by kernel_rfl) Tryz.ntmps124
  unfold kmGet0 at hr; split at hr
  · rename_i ks sc on at_ se y
    have := ret_ok hr; subst this
    exact ⟨_, [], rfl, rfl, .of (argmGet0 ks sc on at_ se y) (by simp), rfl, (fun W R ρ0 own0 hown => noSums (by kernel_rfl)), gmGet0 ⟨ks, sc, on.val, at_.val, se⟩ y.val ⟩
  · cases hr
abbrev kmGet := bor [.box [.ro .u32, .any, .any, .any, .ro seenT], .any] kmGet0
theorem cmGet : Con ea has gl 124 kmGet := bor_ok cmGet0 _
def kmDue0 : List SVal → Nat → Acc ORes := fun a n => match a with | [.rop [.ro .u32 ks, .arr .u32 16 sc, .bool on, .int .i64 at_, .ro (.flat (.int .i64) [.int .u32, .int .u32]) se], .int .i64 y] => .ret ({ v := .bool (.sym (dDue (dV ks sc on at_ se) y.val)) }) | _ => .fail "mDue0"
theorem argmDue0 (ks : List Int) (sc : List Int) (on : SB) (at_ : SI) (se : List (Int × Int × Int)) (y : SI) : (all (subL tAtN none' [] deep [.rop [.ro .u32 ks, .arr .u32 16 sc, .bool on, .int .i64 at_, .ro (.flat (.int .i64) [.int .u32, .int .u32]) se], .int .i64 y] [.rop [.ro .u32 (dV ks sc on at_ se).keys, .arr .u32 16 (dV ks sc on at_ se).sec, .bool (.sym (dV ks sc on at_ se).on), .int .i64 (.full (dV ks sc on at_ se).at_), .ro seenT (dV ks sc on at_ se).seen], .int .i64 (.full y.val)])) = (
  ks = ks ∧ sc = sc ∧ SB.val on = SB.val on ∧ SI.val at_ = SI.val at_ ∧ se = se ∧ SI.val y = SI.val y) := by kernel_rfl
abbrev TmDue0 (gl : List (Nat × SVal)) (d : Dv) (y : Int) : Prop := Tr.sat (plainQ (.bool (.sym (dDue d y)))) (run (env gl []) [] (bodyOf Tryz.f62) (start [.rop [.ro .u32 d.keys, .arr .u32 16 d.sec, .bool (.sym d.on), .int .i64 (.full d.at_), .ro seenT d.seen], .int .i64 (.full y)] 17) (ends (env gl []) Tryz.f62.results.toList))
theorem runmDue0 (gl : List (Nat × SVal)) (d : Dv) (y : Int) : (TmDue0 gl d y) = (
  (d.on && decide (d.at_ ≤ y)) = dDue d y) := by kernel_rfl
theorem gmDue0 (d : Dv) (y : Int)  : Box (TmDue0 gl d y) := by
  refine .of (runmDue0 gl d y) ?_
  rfl
theorem cmDue0 : Con ea has gl 62 kmDue0 := by
  refine plain_mkB Tryz.func62 17 (con := []) trivial (fun hA hr hv => ?_) (by kernel_rfl) (by kernel_rfl) Tryz.ntmps62
  unfold kmDue0 at hr; split at hr
  · rename_i ks sc on at_ se y
    have := ret_ok hr; subst this
    exact ⟨_, [], rfl, rfl, .of (argmDue0 ks sc on at_ se y) (by simp), rfl, (fun W R ρ0 own0 hown => noSums (by kernel_rfl)), gmDue0 ⟨ks, sc, on.val, at_.val, se⟩ y.val ⟩
  · cases hr
abbrev kmDue := bor [.box [.ro .u32, .any, .any, .any, .ro seenT], .any] kmDue0
theorem cmDue : Con ea has gl 62 kmDue := bor_ok cmDue0 _
def kmKeys0 : List SVal → Nat → Acc ORes := fun a n => match a with | [.rop [.ro .u32 ks, .arr .u32 16 sc, .bool on, .int .i64 at_, .ro (.flat (.int .i64) [.int .u32, .int .u32]) se]] => .ret ({ v := .int .i64 (.full (dV ks sc on at_ se).keys.length) }) | _ => .fail "mKeys0"
theorem argmKeys0 (ks : List Int) (sc : List Int) (on : SB) (at_ : SI) (se : List (Int × Int × Int)) : (all (subL tAtN none' [] deep [.rop [.ro .u32 ks, .arr .u32 16 sc, .bool on, .int .i64 at_, .ro (.flat (.int .i64) [.int .u32, .int .u32]) se]] [.rop [.ro .u32 (dV ks sc on at_ se).keys, .arr .u32 16 (dV ks sc on at_ se).sec, .bool (.sym (dV ks sc on at_ se).on), .int .i64 (.full (dV ks sc on at_ se).at_), .ro seenT (dV ks sc on at_ se).seen]])) = (
  ks = ks ∧ sc = sc ∧ SB.val on = SB.val on ∧ SI.val at_ = SI.val at_ ∧ se = se) := by kernel_rfl
abbrev TmKeys0 (gl : List (Nat × SVal)) (d : Dv) : Prop := Tr.sat (plainQ (.int .i64 (.full d.keys.length))) (run (env gl []) [] (bodyOf Tryz.f63) (start [.rop [.ro .u32 d.keys, .arr .u32 16 d.sec, .bool (.sym d.on), .int .i64 (.full d.at_), .ro seenT d.seen]] 8) (ends (env gl []) Tryz.f63.results.toList))
theorem runmKeys0 (gl : List (Nat × SVal)) (d : Dv) : (TmKeys0 gl d) = (
  (↑(List.length d.keys) : Int) = (↑(List.length d.keys) : Int)) := by kernel_rfl
theorem gmKeys0 (d : Dv)  : Box (TmKeys0 gl d) := by
  refine .of (runmKeys0 gl d) ?_
  rfl
theorem cmKeys0 : Con ea has gl 63 kmKeys0 := by
  refine plain_mkB Tryz.func63 8 (con := []) trivial (fun hA hr hv => ?_) (by kernel_rfl) (by kernel_rfl) Tryz.ntmps63
  unfold kmKeys0 at hr; split at hr
  · rename_i ks sc on at_ se
    have := ret_ok hr; subst this
    exact ⟨_, [], rfl, rfl, .of (argmKeys0 ks sc on at_ se) (by simp), rfl, (fun W R ρ0 own0 hown => noSums (by kernel_rfl)), gmKeys0 ⟨ks, sc, on.val, at_.val, se⟩ ⟩
  · cases hr
abbrev kmKeys := bor [.box [.ro .u32, .any, .any, .any, .ro seenT]] kmKeys0
theorem cmKeys : Con ea has gl 63 kmKeys := bor_ok cmKeys0 _
def kmSeen0 : List SVal → Nat → Acc ORes := fun a n => match a with | [.rop [.ro .u32 ks, .arr .u32 16 sc, .bool on, .int .i64 at_, .ro (.flat (.int .i64) [.int .u32, .int .u32]) se]] => .ret (newR n (.own 0) ([(0, .recs seenT (dV ks sc on at_ se).seen)]) 1 (some (few (dV ks sc on at_ se).seen))) | _ => .fail "mSeen0"
theorem argmSeen0 (ks : List Int) (sc : List Int) (on : SB) (at_ : SI) (se : List (Int × Int × Int)) : (all (subL tAtN none' [] deep [.rop [.ro .u32 ks, .arr .u32 16 sc, .bool on, .int .i64 at_, .ro (.flat (.int .i64) [.int .u32, .int .u32]) se]] [.rop [.ro .u32 (dV ks sc on at_ se).keys, .arr .u32 16 (dV ks sc on at_ se).sec, .bool (.sym (dV ks sc on at_ se).on), .int .i64 (.full (dV ks sc on at_ se).at_), .ro seenT (dV ks sc on at_ se).seen]])) = (
  ks = ks ∧ sc = sc ∧ SB.val on = SB.val on ∧ SI.val at_ = SI.val at_ ∧ se = se) := by kernel_rfl
abbrev TmSeen0 (gl : List (Nat × SVal)) (d : Dv) : Prop := Tr.sat (newQ (env gl [(61, kCloneSn)]) (.own 0) ([(0, .recs seenT d.seen)]) 1) (run (env gl [(61, kCloneSn)]) [] (bodyOf Tryz.f91) (start [.rop [.ro .u32 d.keys, .arr .u32 16 d.sec, .bool (.sym d.on), .int .i64 (.full d.at_), .ro seenT d.seen]] 8) (ends (env gl [(61, kCloneSn)]) Tryz.f91.results.toList))
theorem runmSeen0 (gl : List (Nat × SVal)) (d : Dv) : (TmSeen0 gl d) = (
  RQ (List.length d.seen ≤ 137438953472) (d.seen = d.seen)) := by kernel_rfl
theorem gmSeen0 (d : Dv)  (hv : few d.seen) : Box (TmSeen0 gl d) := by
  refine .of (runmSeen0 gl d) ?_
  unfold few at hv; exact ⟨by omega, fun _ => rfl⟩
theorem cmSeen0 : Con ea has gl 91 kmSeen0 := by
  refine new_mkB Tryz.func91 8 (con := [(61, kCloneSn)]) ⟨cCloneSn, trivial⟩ (fun hA hr hv => ?_) (by kernel_rfl) (by kernel_rfl) Tryz.ntmps91
  unfold kmSeen0 at hr; split at hr
  · rename_i ks sc on at_ se
    have := ret_ok hr; subst this
    replace hv := hv _ rfl
    exact ⟨_, [], _, _, _, ⟨rfl, rfl, rfl⟩, .of (argmSeen0 ks sc on at_ se) (by simp), rfl, rfl, (fun W R ρ0 own0 hown => noSums (by kernel_rfl)), gmSeen0 ⟨ks, sc, on.val, at_.val, se⟩  hv⟩
  · cases hr
abbrev kmSeen := borN [.box [.ro .u32, .any, .any, .any, .ro seenT]] kmSeen0
theorem cmSeen : Con ea has gl 91 kmSeen := borN_ok cmSeen0 _
def kdClone0 : List SVal → Nat → Acc ORes := fun a n => match a with | [.rop [.ro .u32 ks, .arr .u32 16 sc, .bool on, .int .i64 at_, .ro (.flat (.int .i64) [.int .u32, .int .u32]) se]] => .ret (newR n (.ptr 0 0) ([(0, .cells (dCells 1 2 (dV ks sc on at_ se))), (1, .recs .u32 (dV ks sc on at_ se).keys), (2, .recs seenT (dV ks sc on at_ se).seen)]) 3 (some (few (dV ks sc on at_ se).keys ∧ few (dV ks sc on at_ se).seen))) | _ => .fail "dClone0"
theorem argdClone0 (ks : List Int) (sc : List Int) (on : SB) (at_ : SI) (se : List (Int × Int × Int)) : (all (subL tAtN none' [] deep [.rop [.ro .u32 ks, .arr .u32 16 sc, .bool on, .int .i64 at_, .ro (.flat (.int .i64) [.int .u32, .int .u32]) se]] [.rop [.ro .u32 (dV ks sc on at_ se).keys, .arr .u32 16 (dV ks sc on at_ se).sec, .bool (.sym (dV ks sc on at_ se).on), .int .i64 (.full (dV ks sc on at_ se).at_), .ro seenT (dV ks sc on at_ se).seen]])) = (
  ks = ks ∧ sc = sc ∧ SB.val on = SB.val on ∧ SI.val at_ = SI.val at_ ∧ se = se) := by kernel_rfl
abbrev TdClone0 (gl : List (Nat × SVal)) (d : Dv) : Prop := Tr.sat (newQ (env gl [(57, kCloneW), (61, kCloneSn)]) (.ptr 0 0) ([(0, .cells (dCells 1 2 d)), (1, .recs .u32 d.keys), (2, .recs seenT d.seen)]) 3) (run (env gl [(57, kCloneW), (61, kCloneSn)]) [] (bodyOf Tryz.f29) (start [.rop [.ro .u32 d.keys, .arr .u32 16 d.sec, .bool (.sym d.on), .int .i64 (.full d.at_), .ro seenT d.seen]] 19) (ends (env gl [(57, kCloneW), (61, kCloneSn)]) Tryz.f29.results.toList))
theorem rundClone0 (gl : List (Nat × SVal)) (d : Dv) : (TdClone0 gl d) = (
  RQ (List.length d.keys ≤ 137438953472) (RQ (List.length d.seen ≤ 137438953472) (d.sec = d.sec ∧ d.on = d.on ∧ d.at_ = d.at_ ∧ d.keys = d.keys ∧ d.seen = d.seen))) := by kernel_rfl
theorem gdClone0 (d : Dv)  (hv : few d.keys ∧ few d.seen) : Box (TdClone0 gl d) := by
  refine .of (rundClone0 gl d) ?_
  unfold few at hv; exact ⟨by omega, fun _ => ⟨by omega, fun _ => ⟨rfl, rfl, rfl, rfl, rfl⟩⟩⟩
theorem cdClone0 : Con ea has gl 29 kdClone0 := by
  refine new_mkB Tryz.func29 19 (con := [(57, kCloneW), (61, kCloneSn)]) ⟨cCloneW, cCloneSn, trivial⟩ (fun hA hr hv => ?_) (by kernel_rfl) (by kernel_rfl) Tryz.ntmps29
  unfold kdClone0 at hr; split at hr
  · rename_i ks sc on at_ se
    have := ret_ok hr; subst this
    replace hv := hv _ rfl
    exact ⟨_, [], _, _, _, ⟨rfl, rfl, rfl⟩, .of (argdClone0 ks sc on at_ se) (by simp), rfl, rfl, (fun W R ρ0 own0 hown => noSums (by kernel_rfl)), gdClone0 ⟨ks, sc, on.val, at_.val, se⟩  hv⟩
  · cases hr
abbrev kdClone := borN [.box [.ro .u32, .any, .any, .any, .ro seenT]] kdClone0
theorem cdClone : Con ea has gl 29 kdClone := borN_ok cdClone0 _
def kmEnter : List SVal → Nat → Acc ORes := fun a n => match a with | [.agg [.arr .u32 16 x, .int .u32 pc, .bool ie, .bool eie, .int .u32 epc, .int .u32 tv, .int .u32 ca, .int .u32 ad], .int .i64 y, .int .u32 z] => .ret ({ v := .tuple [.agg (enterC (⟨x, pc.val, ie.val, eie.val, epc.val, tv.val, ca.val, ad.val⟩ : Cpu) y.val z.val).enc, .bool (.sym (enterB (⟨x, pc.val, ie.val, eie.val, epc.val, tv.val, ca.val, ad.val⟩ : Cpu)))] }) | _ => .fail "mEnter"
theorem argmEnter (x : List Int) (pc : SI) (ie eie : SB) (epc tv ca ad : SI) (y z : SI) : (all (subL tAtN none' [] deep [.agg [.arr .u32 16 x, .int .u32 pc, .bool ie, .bool eie, .int .u32 epc, .int .u32 tv, .int .u32 ca, .int .u32 ad], .int .i64 y, .int .u32 z] [.agg (⟨x, pc.val, ie.val, eie.val, epc.val, tv.val, ca.val, ad.val⟩ : Cpu).enc, .int .i64 (.full y.val), .int .u32 (.full z.val)])) = (
  x = x ∧ SI.val pc = SI.val pc ∧ SB.val ie = SB.val ie ∧ SB.val eie = SB.val eie ∧ SI.val epc = SI.val epc ∧ SI.val tv = SI.val tv ∧ SI.val ca = SI.val ca ∧ SI.val ad = SI.val ad ∧ SI.val y = SI.val y ∧ SI.val z = SI.val z) := by kernel_rfl
abbrev TmEnter (gl : List (Nat × SVal)) (p : Cpu) (y z : Int) : Prop := Tr.sat (plainQ (.tuple [.agg (enterC p y z).enc, .bool (.sym (enterB p))])) (run (env gl []) [] (bodyOf Tryz.f64) (start [.agg p.enc, .int .i64 (.full y), .int .u32 (.full z)] 28) (ends (env gl []) Tryz.f64.results.toList))
theorem runmEnter (gl : List (Nat × SVal)) (p : Cpu) (y z : Int) : (TmEnter gl p y z) = (
  IT (decide (p.tv = 0)) (p.r = (enterC p y z).r ∧ p.pc = (enterC p y z).pc ∧ p.ie = (enterC p y z).ie ∧ p.eie = (enterC p y z).eie ∧ p.epc = (enterC p y z).epc ∧ p.tv = (enterC p y z).tv ∧ p.cause = (enterC p y z).cause ∧ p.addr = (enterC p y z).addr ∧ false = enterB p) (p.r = (enterC p y z).r ∧ p.tv = (enterC p y z).pc ∧ false = (enterC p y z).ie ∧ p.ie = (enterC p y z).eie ∧ p.pc = (enterC p y z).epc ∧ p.tv = (enterC p y z).tv ∧ IntKind.wrap IntKind.u32 y = (enterC p y z).cause ∧ z = (enterC p y z).addr ∧ true = enterB p)) := by kernel_rfl
theorem gmEnter (p : Cpu) (y z : Int)  : Box (TmEnter gl p y z) := by
  refine .of (runmEnter gl p y z) ?_
  unfold enterC enterB
  refine ⟨fun h => ?_, fun h => ?_⟩
  · have h := of_decide_eq_true h
    simp [h]
  · have h := of_decide_eq_false h
    simp [h]
theorem cmEnter : Con ea has gl 64 kmEnter := by
  refine plain_mkB Tryz.func64 28 (con := []) trivial (fun hA hr hv => ?_) (by kernel_rfl) (by kernel_rfl) Tryz.ntmps64
  unfold kmEnter at hr; split at hr
  · rename_i x pc ie eie epc tv ca ad y z
    have := ret_ok hr; subst this
    exact ⟨_, [], rfl, rfl, .of (argmEnter x pc ie eie epc tv ca ad y z) (by simp), rfl, (fun W R ρ0 own0 hown => noSums (by kernel_rfl)), gmEnter ⟨x, pc.val, ie.val, eie.val, epc.val, tv.val, ca.val, ad.val⟩ y.val z.val ⟩
  · cases hr
def kmReturn : List SVal → Nat → Acc ORes := fun a n => match a with | [.agg [.arr .u32 16 x, .int .u32 pc, .bool ie, .bool eie, .int .u32 epc, .int .u32 tv, .int .u32 ca, .int .u32 ad]] => .ret ({ v := .agg (returnC (⟨x, pc.val, ie.val, eie.val, epc.val, tv.val, ca.val, ad.val⟩ : Cpu)).enc }) | _ => .fail "mReturn"
theorem argmReturn (x : List Int) (pc : SI) (ie eie : SB) (epc tv ca ad : SI) : (all (subL tAtN none' [] deep [.agg [.arr .u32 16 x, .int .u32 pc, .bool ie, .bool eie, .int .u32 epc, .int .u32 tv, .int .u32 ca, .int .u32 ad]] [.agg (⟨x, pc.val, ie.val, eie.val, epc.val, tv.val, ca.val, ad.val⟩ : Cpu).enc])) = (
  x = x ∧ SI.val pc = SI.val pc ∧ SB.val ie = SB.val ie ∧ SB.val eie = SB.val eie ∧ SI.val epc = SI.val epc ∧ SI.val tv = SI.val tv ∧ SI.val ca = SI.val ca ∧ SI.val ad = SI.val ad) := by kernel_rfl
abbrev TmReturn (gl : List (Nat × SVal)) (p : Cpu) : Prop := Tr.sat (plainQ (.agg (returnC p).enc)) (run (env gl []) [] (bodyOf Tryz.f108) (start [.agg p.enc] 12) (ends (env gl []) Tryz.f108.results.toList))
theorem runmReturn (gl : List (Nat × SVal)) (p : Cpu) : (TmReturn gl p) = (
  p.r = (returnC p).r ∧ p.epc = (returnC p).pc ∧ p.eie = (returnC p).ie ∧ false = (returnC p).eie ∧ (0 : Int) = (returnC p).epc ∧ p.tv = (returnC p).tv ∧ p.cause = (returnC p).cause ∧ p.addr = (returnC p).addr) := by kernel_rfl
theorem gmReturn (p : Cpu)  : Box (TmReturn gl p) := by
  refine .of (runmReturn gl p) ?_
  exact ⟨rfl, rfl, rfl, rfl, rfl, rfl, rfl, rfl⟩
theorem cmReturn : Con ea has gl 108 kmReturn := by
  refine plain_mkB Tryz.func108 12 (con := []) trivial (fun hA hr hv => ?_) (by kernel_rfl) (by kernel_rfl) Tryz.ntmps108
  unfold kmReturn at hr; split at hr
  · rename_i x pc ie eie epc tv ca ad
    have := ret_ok hr; subst this
    exact ⟨_, [], rfl, rfl, .of (argmReturn x pc ie eie epc tv ca ad) (by simp), rfl, (fun W R ρ0 own0 hown => noSums (by kernel_rfl)), gmReturn ⟨x, pc.val, ie.val, eie.val, epc.val, tv.val, ca.val, ad.val⟩ ⟩
  · cases hr
def kmWaits0 : List SVal → Nat → Acc ORes := fun a n => match a with | [.agg [.arr .u32 16 x, .int .u32 pc, .bool ie, .bool eie, .int .u32 epc, .int .u32 tv, .int .u32 ca, .int .u32 ad], .rop [.ro .u32 ks, .arr .u32 16 sc, .bool on, .int .i64 at_, .ro (.flat (.int .i64) [.int .u32, .int .u32]) se], .int .i64 y, .bool z] => .ret ({ v := .int .i64 (.full (waitsW (⟨x, pc.val, ie.val, eie.val, epc.val, tv.val, ca.val, ad.val⟩ : Cpu) (dV ks sc on at_ se) y.val z.val)) }) | _ => .fail "mWaits0"
theorem argmWaits0 (x : List Int) (pc : SI) (ie eie : SB) (epc tv ca ad : SI) (ks : List Int) (sc : List Int) (on : SB) (at_ : SI) (se : List (Int × Int × Int)) (y : SI) (z : SB) : (all (subL tAtN none' [] deep [.agg [.arr .u32 16 x, .int .u32 pc, .bool ie, .bool eie, .int .u32 epc, .int .u32 tv, .int .u32 ca, .int .u32 ad], .rop [.ro .u32 ks, .arr .u32 16 sc, .bool on, .int .i64 at_, .ro (.flat (.int .i64) [.int .u32, .int .u32]) se], .int .i64 y, .bool z] [.agg (⟨x, pc.val, ie.val, eie.val, epc.val, tv.val, ca.val, ad.val⟩ : Cpu).enc, .rop [.ro .u32 (dV ks sc on at_ se).keys, .arr .u32 16 (dV ks sc on at_ se).sec, .bool (.sym (dV ks sc on at_ se).on), .int .i64 (.full (dV ks sc on at_ se).at_), .ro seenT (dV ks sc on at_ se).seen], .int .i64 (.full y.val), .bool (.sym z.val)])) = (
  x = x ∧ SI.val pc = SI.val pc ∧ SB.val ie = SB.val ie ∧ SB.val eie = SB.val eie ∧ SI.val epc = SI.val epc ∧ SI.val tv = SI.val tv ∧ SI.val ca = SI.val ca ∧ SI.val ad = SI.val ad ∧ ks = ks ∧ sc = sc ∧ SB.val on = SB.val on ∧ SI.val at_ = SI.val at_ ∧ se = se ∧ SI.val y = SI.val y ∧ SB.val z = SB.val z) := by kernel_rfl
abbrev TmWaits0 (gl : List (Nat × SVal)) (p : Cpu) (d : Dv) (y : Int) (z : Bool) : Prop := Tr.sat (plainQ (.int .i64 (.full (waitsW p d y z)))) (run (env gl [(62, kmDue), (63, kmKeys)]) [] (bodyOf Tryz.f31) (start [.agg p.enc, .rop [.ro .u32 d.keys, .arr .u32 16 d.sec, .bool (.sym d.on), .int .i64 (.full d.at_), .ro seenT d.seen], .int .i64 (.full y), .bool (.sym z)] 23) (ends (env gl [(62, kmDue), (63, kmKeys)]) Tryz.f31.results.toList))
theorem runmWaits0 (gl : List (Nat × SVal)) (p : Cpu) (d : Dv) (y : Int) (z : Bool) : (TmWaits0 gl p d y z) = (
  IT (!p.ie) ((0 : Int) = waitsW p d y z) (IT (dDue d y) ((2 : Int) = waitsW p d y z) (IT (decide (0 < ((List.length d.keys) : Int))) ((3 : Int) = waitsW p d y z) (IT z ((5 : Int) = waitsW p d y z) ((0 : Int) = waitsW p d y z))))) := by kernel_rfl
theorem gmWaits0 (p : Cpu) (d : Dv) (y : Int) (z : Bool)  : Box (TmWaits0 gl p d y z) := by
  refine .of (runmWaits0 gl p d y z) ?_
  unfold waitsW
  refine ⟨fun h => ?_, fun h => ⟨fun h2 => ?_, fun h2 => ⟨fun h3 => ?_, fun h3 => ⟨fun h4 => ?_, fun h4 => ?_⟩⟩⟩⟩ <;> simp_all
theorem cmWaits0 : Con ea has gl 31 kmWaits0 := by
  refine plain_mkB Tryz.func31 23 (con := [(62, kmDue), (63, kmKeys)]) ⟨cmDue, cmKeys, trivial⟩ (fun hA hr hv => ?_) (by kernel_rfl) (by kernel_rfl) Tryz.ntmps31
  unfold kmWaits0 at hr; split at hr
  · rename_i x pc ie eie epc tv ca ad ks sc on at_ se y z
    have := ret_ok hr; subst this
    exact ⟨_, [], rfl, rfl, .of (argmWaits0 x pc ie eie epc tv ca ad ks sc on at_ se y z) (by simp), rfl, (fun W R ρ0 own0 hown => noSums (by kernel_rfl)), gmWaits0 ⟨x, pc.val, ie.val, eie.val, epc.val, tv.val, ca.val, ad.val⟩ ⟨ks, sc, on.val, at_.val, se⟩ y.val z.val ⟩
  · cases hr
abbrev kmWaits := bor [.any, .box [.ro .u32, .any, .any, .any, .ro seenT], .any, .any] kmWaits0
theorem cmWaits : Con ea has gl 31 kmWaits := bor_ok cmWaits0 _
def krPress : List SVal → Nat → Acc ORes := fun a n => match a with
  | [.ptr q 0, .int .u32 y] => .look q fun cc => match cc with | some (.cells [.own k, .own e, .arr .u32 16 sc, .int .i64 at_, .bool on]) => (.look e fun cc => match cc with | some (.recs (.flat (.int .i64) [.int .u32, .int .u32]) se) => (.look k fun cc => match cc with | some (.recs .u32 ks) => (match nodupB [q, e, k] with | true => .ret (genR [q, e] (gone [k]) n (.bool (.sym (dPressB (dV ks sc on at_ se)))) ([(0, .cells (eCells 2 1 (dPress (dV ks sc on at_ se) y.val))), (1, .recs seenT (dPress (dV ks sc on at_ se) y.val).seen), (2, .recs .u32 (dPress (dV ks sc on at_ se) y.val).keys)]) 1) | false => .fail "rPress") | _ => .fail "rPress") | _ => .fail "rPress") | _ => .fail "rPress"
  | _ => .fail "rPress"
theorem fitrPress (gl : List (Nat × SVal)) (y : SI) (sc : List Int) (on : SB) (at_ : SI) (ks : List Int) (se : List (Int × Int × Int)) : (fits (envK gl [] 2) (S1 [.ptr 0 0, .int .u32 y] (numC 0 [.cells [.own 2, .own 1, .arr .u32 16 sc, .int .i64 at_, .bool on], .recs (.flat (.int .i64) [.int .u32, .int .u32]) se, .recs .u32 ks]) 3 21) (S1 [.ptr 0 0, .int .u32 (.full y.val)] [(0, some (.cells (eCells 2 1 (dV ks sc on at_ se)))), (1, some (.recs seenT (dV ks sc on at_ se).seen)), (2, some (.recs .u32 (dV ks sc on at_ se).keys))] 3 21)) = (
  SI.val y = SI.val y ∧ sc = sc ∧ SI.val at_ = SI.val at_ ∧ SB.val on = SB.val on ∧ se = se ∧ ks = ks) := by kernel_rfl
abbrev TrPress (gl : List (Nat × SVal)) (y : Int) (d : Dv) : Prop := Tr.sat (newQ (envK gl [] 2) (.bool (.sym (dPressB d))) ([(0, .cells (eCells 2 1 (dPress d y))), (1, .recs seenT (dPress d y).seen), (2, .recs .u32 (dPress d y).keys)]) (2 + 1)) (run (envK gl [] 2) [] (bodyOf Tryz.f10) (S1 [.ptr 0 0, .int .u32 (.full y)] [(0, some (.cells (eCells 2 1 d))), (1, some (.recs seenT d.seen)), (2, some (.recs .u32 d.keys))] 3 21) (ends (envK gl [] 2) Tryz.f10.results.toList))
theorem runrPress (gl : List (Nat × SVal)) (y : Int) (d : Dv) : (TrPress gl y d) = (
  IT (decide ((64 : Int) ≤ ((List.length d.keys) : Int))) (false = dPressB d ∧ d.sec = (dPress d y).sec ∧ d.at_ = (dPress d y).at_ ∧ d.on = (dPress d y).on ∧ d.seen = (dPress d y).seen ∧ d.keys = (dPress d y).keys) (RQ (List.length d.keys + List.length [y] ≤ 137438953472) (true = dPressB d ∧ d.sec = (dPress d y).sec ∧ d.at_ = (dPress d y).at_ ∧ d.on = (dPress d y).on ∧ d.seen = (dPress d y).seen ∧ d.keys ++ [y] = (dPress d y).keys))) := by kernel_rfl
theorem grPress (y : Int) (d : Dv)  : Box (TrPress gl y d) := by
  refine .of (runrPress gl y d) ?_
  unfold dPress dPressB
  refine ⟨fun h => ?_, fun h => ?_⟩
  · have h := of_decide_eq_true h
    simp [h]
  · have h := of_decide_eq_false h
    simp only [List.length_singleton]
    exact ⟨by omega, fun _ => by simp [h]⟩
theorem crPress : Con ea has gl 10 krPress := by
  refine gen_mk Tryz.func10 21 2 (con := []) trivial (fun hA hr hv => ?_) (by kernel_rfl) (by kernel_rfl) Tryz.ntmps10
  unfold krPress at hr; split at hr
  · rename_i q y
    simp only [Acc.run] at hr
    split at hr
    · rename_i k e sc at_ on hq
      simp only [Acc.run] at hr
      split at hr
      · rename_i se he
        simp only [Acc.run] at hr
        split at hr
        · rename_i ks hk
          split at hr
          · rename_i hnd
            have := ret_ok hr; subst this
            refine ⟨[q, e], [k], [.cells [.own 2, .own 1, .arr .u32 16 sc, .int .i64 at_, .bool on], .recs (.flat (.int .i64) [.int .u32, .int .u32]) se, .recs .u32 ks], [.ptr 0 0, .int .u32 y], (S1 [.ptr 0 0, .int .u32 (.full y.val)] [(0, some (.cells (eCells 2 1 (dV ks sc on at_ se)))), (1, some (.recs seenT (dV ks sc on at_ se).seen)), (2, some (.recs .u32 (dV ks sc on at_ se).keys))] 3 21), [], .bool (.sym (dPressB (dV ks sc on at_ se))), [(0, .cells (eCells 2 1 (dPress (dV ks sc on at_ se) y.val))), (1, .recs seenT (dPress (dV ks sc on at_ se) y.val).seen), (2, .recs .u32 (dPress (dV ks sc on at_ se) y.val).keys)], 1, rfl, rfl, ⟨rfl, rfl, rfl⟩, hnd, ⟨hq, he, hk, trivial⟩, rfl, rfl, .of (fitrPress gl y sc on at_ ks se) (by simp [nilR]), rfl, (fun W R ρ0 own0 hown => noSums (by kernel_rfl)), grPress y.val ⟨ks, sc, on.val, at_.val, se⟩⟩
          · cases hr
        · cases hr
      · cases hr
    · cases hr
  · cases hr
def krIn : List SVal → Nat → Acc ORes := fun a n => match a with
  | [.ptr q 0] => .look q fun cc => match cc with | some (.cells [.own k, .own e, .arr .u32 16 sc, .int .i64 at_, .bool on]) => (.look e fun cc => match cc with | some (.recs (.flat (.int .i64) [.int .u32, .int .u32]) se) => (.look k fun cc => match cc with | some (.recs .u32 ks) => (match nodupB [q, e, k] with | true => .ret (genR [q, e] (gone [k]) n (.int .u32 (.full (dInW (dV ks sc on at_ se)))) ([(0, .cells (eCells 2 1 (dIn (dV ks sc on at_ se)))), (1, .recs seenT (dIn (dV ks sc on at_ se)).seen), (2, .recs .u32 (dIn (dV ks sc on at_ se)).keys)]) 1 (some (few (dV ks sc on at_ se).keys))) | false => .fail "rIn") | _ => .fail "rIn") | _ => .fail "rIn") | _ => .fail "rIn"
  | _ => .fail "rIn"
theorem fitrIn (gl : List (Nat × SVal)) (sc : List Int) (on : SB) (at_ : SI) (ks : List Int) (se : List (Int × Int × Int)) : (fits (envK gl [(60, kWordsN)] 2) (S1 [.ptr 0 0] (numC 0 [.cells [.own 2, .own 1, .arr .u32 16 sc, .int .i64 at_, .bool on], .recs (.flat (.int .i64) [.int .u32, .int .u32]) se, .recs .u32 ks]) 3 26) (S1 [.ptr 0 0] [(0, some (.cells (eCells 2 1 (dV ks sc on at_ se)))), (1, some (.recs seenT (dV ks sc on at_ se).seen)), (2, some (.recs .u32 (dV ks sc on at_ se).keys))] 3 26)) = (
  sc = sc ∧ SI.val at_ = SI.val at_ ∧ SB.val on = SB.val on ∧ se = se ∧ ks = ks) := by kernel_rfl
abbrev TrIn (gl : List (Nat × SVal)) (d : Dv) : Prop := Tr.sat (newQ (envK gl [(60, kWordsN)] 2) (.int .u32 (.full (dInW d))) ([(0, .cells (eCells 2 1 (dIn d))), (1, .recs seenT (dIn d).seen), (2, .recs .u32 (dIn d).keys)]) (2 + 1)) (run (envK gl [(60, kWordsN)] 2) [] (bodyOf Tryz.f83) (S1 [.ptr 0 0] [(0, some (.cells (eCells 2 1 d))), (1, some (.recs seenT d.seen)), (2, some (.recs .u32 d.keys))] 3 26) (ends (envK gl [(60, kWordsN)] 2) Tryz.f83.results.toList))
theorem runrIn (gl : List (Nat × SVal)) (d : Dv) : (TrIn gl d) = (
  IT (decide (((List.length d.keys) : Int) = 0)) ((0 : Int) = dInW d ∧ d.sec = (dIn d).sec ∧ d.at_ = (dIn d).at_ ∧ d.on = (dIn d).on ∧ d.seen = (dIn d).seen ∧ d.keys = (dIn d).keys) (RQ ((0 : Int) ≤ (0 : Int) ∧ 0 < ((List.length d.keys) : Int)) (RQ ((0 : Int) ≤ (1 : Int) ∧ (1 : Int) ≤ ((List.length d.keys) : Int)) (RQ (List.length (List.take (List.length d.keys - Int.toNat (1 : Int)) (List.drop (Int.toNat (1 : Int)) d.keys)) ≤ 1000000) (List.getD d.keys (Int.toNat (0 : Int)) (RT.dflt RT.u32) = dInW d ∧ d.sec = (dIn d).sec ∧ d.at_ = (dIn d).at_ ∧ d.on = (dIn d).on ∧ d.seen = (dIn d).seen ∧ List.take (List.length d.keys - Int.toNat (1 : Int)) (List.drop (Int.toNat (1 : Int)) d.keys) = (dIn d).keys))))) := by kernel_rfl
theorem grIn (d : Dv) (hv : few d.keys) : Box (TrIn gl d) := by
  refine .of (runrIn gl d) ?_
  unfold few at hv
  refine ⟨fun h => ?_, fun h => ?_⟩
  · have h := of_decide_eq_true h
    have e : d.keys = [] := List.eq_nil_of_length_eq_zero (by omega)
    simp [dInW, dIn, e]
  · have h := of_decide_eq_false h
    have e : (d.keys.drop (Int.toNat 1)).take (d.keys.length - Int.toNat 1) = d.keys.drop 1 := by rw [List.take_of_length_le (by simp)]; rfl
    rw [e]
    exact ⟨by omega, fun _ => ⟨by omega, fun _ => ⟨by rw [List.length_drop]; omega, fun _ => ⟨rfl, rfl, rfl, rfl, rfl, rfl⟩⟩⟩⟩
theorem crIn : Con ea has gl 83 krIn := by
  refine gen_mk Tryz.func83 26 2 (con := [(60, kWordsN)]) ⟨cWordsN, trivial⟩ (fun hA hr hv => ?_) (by kernel_rfl) (by kernel_rfl) Tryz.ntmps83
  unfold krIn at hr; split at hr
  · rename_i q
    simp only [Acc.run] at hr
    split at hr
    · rename_i k e sc at_ on hq
      simp only [Acc.run] at hr
      split at hr
      · rename_i se he
        simp only [Acc.run] at hr
        split at hr
        · rename_i ks hk
          split at hr
          · rename_i hnd
            have := ret_ok hr; subst this
            refine ⟨[q, e], [k], [.cells [.own 2, .own 1, .arr .u32 16 sc, .int .i64 at_, .bool on], .recs (.flat (.int .i64) [.int .u32, .int .u32]) se, .recs .u32 ks], [.ptr 0 0], (S1 [.ptr 0 0] [(0, some (.cells (eCells 2 1 (dV ks sc on at_ se)))), (1, some (.recs seenT (dV ks sc on at_ se).seen)), (2, some (.recs .u32 (dV ks sc on at_ se).keys))] 3 26), [], .int .u32 (.full (dInW (dV ks sc on at_ se))), [(0, .cells (eCells 2 1 (dIn (dV ks sc on at_ se)))), (1, .recs seenT (dIn (dV ks sc on at_ se)).seen), (2, .recs .u32 (dIn (dV ks sc on at_ se)).keys)], 1, rfl, rfl, ⟨rfl, rfl, rfl⟩, hnd, ⟨hq, he, hk, trivial⟩, rfl, rfl, .of (fitrIn gl sc on at_ ks se) (by simp [nilR]), rfl, (fun W R ρ0 own0 hown => noSums (by kernel_rfl)), grIn ⟨ks, sc, on.val, at_.val, se⟩ (hv _ rfl)⟩
          · cases hr
        · cases hr
      · cases hr
    · cases hr
  · cases hr
def krOut : List SVal → Nat → Acc ORes := fun a n => match a with
  | [.ptr q 0, .int .u32 y] => .look q fun cc => match cc with | some (.cells [.own k, .own e, .arr .u32 16 sc, .int .i64 at_, .bool on]) => (.look k fun cc => match cc with | some (.recs .u32 ks) => (.look e fun cc => match cc with | some (.recs (.flat (.int .i64) [.int .u32, .int .u32]) se) => (match nodupB [q, k, e] with | true => .ret (genR [q, k] (gone [e]) n (.tuple []) ([(0, .cells (eCells 1 2 (dOut (dV ks sc on at_ se) y.val))), (1, .recs .u32 (dOut (dV ks sc on at_ se) y.val).keys), (2, .recs seenT (dOut (dV ks sc on at_ se) y.val).seen)]) 1 (some (few (dV ks sc on at_ se).seen))) | false => .fail "rOut") | _ => .fail "rOut") | _ => .fail "rOut") | _ => .fail "rOut"
  | _ => .fail "rOut"
theorem fitrOut (gl : List (Nat × SVal)) (y : SI) (sc : List Int) (on : SB) (at_ : SI) (ks : List Int) (se : List (Int × Int × Int)) : (fits (envK gl [] 2) (S1 [.ptr 0 0, .int .u32 y] (numC 0 (rC0 ks sc on at_ se)) 3 15) (S1 [.ptr 0 0, .int .u32 (.full y.val)] [(0, some (.cells (eCells 1 2 (dV ks sc on at_ se)))), (1, some (.recs .u32 (dV ks sc on at_ se).keys)), (2, some (.recs seenT (dV ks sc on at_ se).seen))] 3 15)) = (
  SI.val y = SI.val y ∧ sc = sc ∧ SI.val at_ = SI.val at_ ∧ SB.val on = SB.val on ∧ ks = ks ∧ se = se) := by kernel_rfl
abbrev TrOut (gl : List (Nat × SVal)) (y : Int) (d : Dv) : Prop := Tr.sat (newQ (envK gl [] 2) (.tuple []) ([(0, .cells (eCells 1 2 (dOut d y))), (1, .recs .u32 (dOut d y).keys), (2, .recs seenT (dOut d y).seen)]) (2 + 1)) (run (envK gl [] 2) [] (bodyOf Tryz.f82) (S1 [.ptr 0 0, .int .u32 (.full y)] [(0, some (.cells (eCells 1 2 d))), (1, some (.recs .u32 d.keys)), (2, some (.recs seenT d.seen))] 3 15) (ends (envK gl [] 2) Tryz.f82.results.toList))
theorem runrOut (gl : List (Nat × SVal)) (y : Int) (d : Dv) : (TrOut gl y d) = (
  RQ (List.length d.seen + List.length [((1 : Int), (0 : Int), y)] ≤ 137438953472) (d.sec = (dOut d y).sec ∧ d.at_ = (dOut d y).at_ ∧ d.on = (dOut d y).on ∧ d.keys = (dOut d y).keys ∧ d.seen ++ [((1 : Int), (0 : Int), y)] = (dOut d y).seen)) := by kernel_rfl
theorem grOut (y : Int) (d : Dv) (hv : few d.seen) : Box (TrOut gl y d) := by
  refine .of (runrOut gl y d) ?_
  unfold few at hv
  exact ⟨by simp only [List.length_singleton]; omega, fun _ => ⟨rfl, rfl, rfl, rfl, rfl⟩⟩
theorem crOut : Con ea has gl 82 krOut := by
  refine gen_mk Tryz.func82 15 2 (con := []) trivial (fun hA hr hv => ?_) (by kernel_rfl) (by kernel_rfl) Tryz.ntmps82
  unfold krOut at hr; split at hr
  · rename_i q y
    simp only [Acc.run] at hr
    split at hr
    · rename_i k e sc at_ on hq
      simp only [Acc.run] at hr
      split at hr
      · rename_i ks hk
        simp only [Acc.run] at hr
        split at hr
        · rename_i se he
          split at hr
          · rename_i hnd
            have := ret_ok hr; subst this
            refine ⟨[q, k], [e], (rC0 ks sc on at_ se), [.ptr 0 0, .int .u32 y], (S1 [.ptr 0 0, .int .u32 (.full y.val)] [(0, some (.cells (eCells 1 2 (dV ks sc on at_ se)))), (1, some (.recs .u32 (dV ks sc on at_ se).keys)), (2, some (.recs seenT (dV ks sc on at_ se).seen))] 3 15), [], .tuple [], [(0, .cells (eCells 1 2 (dOut (dV ks sc on at_ se) y.val))), (1, .recs .u32 (dOut (dV ks sc on at_ se) y.val).keys), (2, .recs seenT (dOut (dV ks sc on at_ se) y.val).seen)], 1, rfl, rfl, ⟨rfl, rfl, rfl⟩, hnd, ⟨hq, hk, he, trivial⟩, rfl, rfl, .of (fitrOut gl y sc on at_ ks se) (by simp [nilR]), rfl, (fun W R ρ0 own0 hown => noSums (by kernel_rfl)), grOut y.val ⟨ks, sc, on.val, at_.val, se⟩ (hv _ rfl)⟩
          · cases hr
        · cases hr
      · cases hr
    · cases hr
  · cases hr
def krPut : List SVal → Nat → Acc ORes := fun a n => match a with
  | [.ptr q 0, .int .u32 y, .int .u32 z] => .look q fun cc => match cc with | some (.cells [.own k, .own e, .arr .u32 16 sc, .int .i64 at_, .bool on]) => (.look k fun cc => match cc with | some (.recs .u32 ks) => (.look e fun cc => match cc with | some (.recs (.flat (.int .i64) [.int .u32, .int .u32]) se) => (match nodupB [q, k, e] with | true => .ret (genR [q, k] (gone [e]) n (.tuple []) ([(0, .cells (eCells 1 2 (dPut (dV ks sc on at_ se) y.val z.val))), (1, .recs .u32 (dPut (dV ks sc on at_ se) y.val z.val).keys), (2, .recs seenT (dPut (dV ks sc on at_ se) y.val z.val).seen)]) 1 (some (few (dV ks sc on at_ se).seen))) | false => .fail "rPut") | _ => .fail "rPut") | _ => .fail "rPut") | _ => .fail "rPut"
  | _ => .fail "rPut"
theorem fitrPut (gl : List (Nat × SVal)) (y z : SI) (sc : List Int) (on : SB) (at_ : SI) (ks : List Int) (se : List (Int × Int × Int)) : (fits (envK gl [] 2) (S1 [.ptr 0 0, .int .u32 y, .int .u32 z] (numC 0 (rC0 ks sc on at_ se)) 3 27) (S1 [.ptr 0 0, .int .u32 (.full y.val), .int .u32 (.full z.val)] [(0, some (.cells (eCells 1 2 (dV ks sc on at_ se)))), (1, some (.recs .u32 (dV ks sc on at_ se).keys)), (2, some (.recs seenT (dV ks sc on at_ se).seen))] 3 27)) = (
  SI.val y = SI.val y ∧ SI.val z = SI.val z ∧ sc = sc ∧ SI.val at_ = SI.val at_ ∧ SB.val on = SB.val on ∧ ks = ks ∧ se = se) := by kernel_rfl
abbrev TrPut (gl : List (Nat × SVal)) (y z : Int) (d : Dv) : Prop := Tr.sat (newQ (envK gl [] 2) (.tuple []) ([(0, .cells (eCells 1 2 (dPut d y z))), (1, .recs .u32 (dPut d y z).keys), (2, .recs seenT (dPut d y z).seen)]) (2 + 1)) (run (envK gl [] 2) [] (bodyOf Tryz.f84) (S1 [.ptr 0 0, .int .u32 (.full y), .int .u32 (.full z)] [(0, some (.cells (eCells 1 2 d))), (1, some (.recs .u32 d.keys)), (2, some (.recs seenT d.seen))] 3 27) (ends (envK gl [] 2) Tryz.f84.results.toList))
theorem runrPut (gl : List (Nat × SVal)) (y z : Int) (d : Dv) : (TrPut gl y z d) = (
  RQ (0 ≤ y % Int.ofNat (nat_lit 15 + (1 : Nat)) ∧ y % Int.ofNat (nat_lit 15 + (1 : Nat)) < ((16 : Nat) : Int)) (RQ (List.length d.seen + List.length [((2 : Int), y % Int.ofNat (nat_lit 15 + (1 : Nat)), z)] ≤ 137438953472) (List.set d.sec (Int.toNat (y % Int.ofNat (nat_lit 15 + (1 : Nat)))) z = (dPut d y z).sec ∧ d.at_ = (dPut d y z).at_ ∧ d.on = (dPut d y z).on ∧ d.keys = (dPut d y z).keys ∧ d.seen ++ [((2 : Int), y % Int.ofNat (nat_lit 15 + (1 : Nat)), z)] = (dPut d y z).seen))) := by kernel_rfl
theorem grPut (y z : Int) (d : Dv) (hv : few d.seen) : Box (TrPut gl y z d) := by
  refine .of (runrPut gl y z d) ?_
  unfold few at hv
  have o16 : Int.ofNat (15 + 1) = 16 := rfl
  rw [o16]
  exact ⟨by omega, fun _ => ⟨by simp only [List.length_singleton]; omega, fun _ => ⟨rfl, rfl, rfl, rfl, rfl⟩⟩⟩
theorem crPut : Con ea has gl 84 krPut := by
  refine gen_mk Tryz.func84 27 2 (con := []) trivial (fun hA hr hv => ?_) (by kernel_rfl) (by kernel_rfl) Tryz.ntmps84
  unfold krPut at hr; split at hr
  · rename_i q y z
    simp only [Acc.run] at hr
    split at hr
    · rename_i k e sc at_ on hq
      simp only [Acc.run] at hr
      split at hr
      · rename_i ks hk
        simp only [Acc.run] at hr
        split at hr
        · rename_i se he
          split at hr
          · rename_i hnd
            have := ret_ok hr; subst this
            refine ⟨[q, k], [e], (rC0 ks sc on at_ se), [.ptr 0 0, .int .u32 y, .int .u32 z], (S1 [.ptr 0 0, .int .u32 (.full y.val), .int .u32 (.full z.val)] [(0, some (.cells (eCells 1 2 (dV ks sc on at_ se)))), (1, some (.recs .u32 (dV ks sc on at_ se).keys)), (2, some (.recs seenT (dV ks sc on at_ se).seen))] 3 27), [], .tuple [], [(0, .cells (eCells 1 2 (dPut (dV ks sc on at_ se) y.val z.val))), (1, .recs .u32 (dPut (dV ks sc on at_ se) y.val z.val).keys), (2, .recs seenT (dPut (dV ks sc on at_ se) y.val z.val).seen)], 1, rfl, rfl, ⟨rfl, rfl, rfl⟩, hnd, ⟨hq, hk, he, trivial⟩, rfl, rfl, .of (fitrPut gl y z sc on at_ ks se) (by simp [nilR]), rfl, (fun W R ρ0 own0 hown => noSums (by kernel_rfl)), grPut y.val z.val ⟨ks, sc, on.val, at_.val, se⟩ (hv _ rfl)⟩
          · cases hr
        · cases hr
      · cases hr
    · cases hr
  · cases hr
def krSet : List SVal → Nat → Acc ORes := fun a n => match a with
  | [.ptr q 0, .int .i64 y, .int .u32 z] => .look q fun cc => match cc with | some (.cells [.own k, .own e, .arr .u32 16 sc, .int .i64 at_, .bool on]) => (.look k fun cc => match cc with | some (.recs .u32 ks) => (.look e fun cc => match cc with | some (.recs (.flat (.int .i64) [.int .u32, .int .u32]) se) => (match nodupB [q, k, e] with | true => .ret (genR [q, k, e] (gone []) n (.tuple []) ([(0, .cells (eCells 1 2 (dSet false (dV ks sc on at_ se) y.val z.val))), (1, .recs .u32 (dSet false (dV ks sc on at_ se) y.val z.val).keys), (2, .recs seenT (dSet false (dV ks sc on at_ se) y.val z.val).seen)]) 0) | false => .fail "rSet") | _ => .fail "rSet") | _ => .fail "rSet") | _ => .fail "rSet"
  | _ => .fail "rSet"
theorem fitrSet (gl : List (Nat × SVal)) (y z : SI) (sc : List Int) (on : SB) (at_ : SI) (ks : List Int) (se : List (Int × Int × Int)) : (fits (envK gl [] 3) (S1 [.ptr 0 0, .int .i64 y, .int .u32 z] (numC 0 (rC0 ks sc on at_ se)) 3 18) (S1 [.ptr 0 0, .int .i64 (.full y.val), .int .u32 (.full z.val)] [(0, some (.cells (eCells 1 2 (dV ks sc on at_ se)))), (1, some (.recs .u32 (dV ks sc on at_ se).keys)), (2, some (.recs seenT (dV ks sc on at_ se).seen))] 3 18)) = (
  SI.val y = SI.val y ∧ SI.val z = SI.val z ∧ sc = sc ∧ SI.val at_ = SI.val at_ ∧ SB.val on = SB.val on ∧ ks = ks ∧ se = se) := by kernel_rfl
abbrev TrSet (gl : List (Nat × SVal)) (y z : Int) (d : Dv) : Prop := Tr.sat (newQ (envK gl [] 3) (.tuple []) ([(0, .cells (eCells 1 2 (dSet false d y z))), (1, .recs .u32 (dSet false d y z).keys), (2, .recs seenT (dSet false d y z).seen)]) (3 + 0)) (run (envK gl [] 3) [] (bodyOf Tryz.f86) (S1 [.ptr 0 0, .int .i64 (.full y), .int .u32 (.full z)] [(0, some (.cells (eCells 1 2 d))), (1, some (.recs .u32 d.keys)), (2, some (.recs seenT d.seen))] 3 18) (ends (envK gl [] 3) Tryz.f86.results.toList))
theorem runrSet (gl : List (Nat × SVal)) (y z : Int) (d : Dv) : (TrSet gl y z d) = (
  d.sec = (dSet false d y z).sec ∧ IntKind.wrap IntKind.i64 (y + z) = (dSet false d y z).at_ ∧ decide (0 < z) = (dSet false d y z).on ∧ d.keys = (dSet false d y z).keys ∧ d.seen = (dSet false d y z).seen) := by kernel_rfl
theorem grSet (y z : Int) (d : Dv)  : Box (TrSet gl y z d) := by
  refine .of (runrSet gl y z d) ?_
  unfold dSet; simp
theorem crSet : Con ea has gl 86 krSet := by
  refine gen_mk Tryz.func86 18 3 (con := []) trivial (fun hA hr hv => ?_) (by kernel_rfl) (by kernel_rfl) Tryz.ntmps86
  unfold krSet at hr; split at hr
  · rename_i q y z
    simp only [Acc.run] at hr
    split at hr
    · rename_i k e sc at_ on hq
      simp only [Acc.run] at hr
      split at hr
      · rename_i ks hk
        simp only [Acc.run] at hr
        split at hr
        · rename_i se he
          split at hr
          · rename_i hnd
            have := ret_ok hr; subst this
            refine ⟨[q, k, e], [], (rC0 ks sc on at_ se), [.ptr 0 0, .int .i64 y, .int .u32 z], (S1 [.ptr 0 0, .int .i64 (.full y.val), .int .u32 (.full z.val)] [(0, some (.cells (eCells 1 2 (dV ks sc on at_ se)))), (1, some (.recs .u32 (dV ks sc on at_ se).keys)), (2, some (.recs seenT (dV ks sc on at_ se).seen))] 3 18), [], .tuple [], [(0, .cells (eCells 1 2 (dSet false (dV ks sc on at_ se) y.val z.val))), (1, .recs .u32 (dSet false (dV ks sc on at_ se) y.val z.val).keys), (2, .recs seenT (dSet false (dV ks sc on at_ se) y.val z.val).seen)], 0, rfl, rfl, ⟨rfl, rfl, rfl⟩, hnd, ⟨hq, hk, he, trivial⟩, rfl, rfl, .of (fitrSet gl y z sc on at_ ks se) (by simp [nilR]), rfl, (fun W R ρ0 own0 hown => noSums (by kernel_rfl)), grSet y.val z.val ⟨ks, sc, on.val, at_.val, se⟩⟩
          · cases hr
        · cases hr
      · cases hr
    · cases hr
  · cases hr
def krEnd : List SVal → Nat → Acc ORes := fun a n => match a with
  | [.ptr q 0, .int .i64 y, .int .u32 z] => .look q fun cc => match cc with | some (.cells [.own k, .own e, .arr .u32 16 sc, .int .i64 at_, .bool on]) => (.look k fun cc => match cc with | some (.recs .u32 ks) => (.look e fun cc => match cc with | some (.recs (.flat (.int .i64) [.int .u32, .int .u32]) se) => (match nodupB [q, k, e] with | true => .ret (genR [q, k] (gone [e]) n (.tuple []) ([(0, .cells (eCells 1 2 (dEnd (dV ks sc on at_ se) y.val z.val))), (1, .recs .u32 (dEnd (dV ks sc on at_ se) y.val z.val).keys), (2, .recs seenT (dEnd (dV ks sc on at_ se) y.val z.val).seen)]) 1 (some (few (dV ks sc on at_ se).seen))) | false => .fail "rEnd") | _ => .fail "rEnd") | _ => .fail "rEnd") | _ => .fail "rEnd"
  | _ => .fail "rEnd"
theorem fitrEnd (gl : List (Nat × SVal)) (y z : SI) (sc : List Int) (on : SB) (at_ : SI) (ks : List Int) (se : List (Int × Int × Int)) : (fits (envK gl [] 2) (S1 [.ptr 0 0, .int .i64 y, .int .u32 z] (numC 0 (rC0 ks sc on at_ se)) 3 35) (S1 [.ptr 0 0, .int .i64 (.full y.val), .int .u32 (.full z.val)] [(0, some (.cells (eCells 1 2 (dV ks sc on at_ se)))), (1, some (.recs .u32 (dV ks sc on at_ se).keys)), (2, some (.recs seenT (dV ks sc on at_ se).seen))] 3 35)) = (
  SI.val y = SI.val y ∧ SI.val z = SI.val z ∧ sc = sc ∧ SI.val at_ = SI.val at_ ∧ SB.val on = SB.val on ∧ ks = ks ∧ se = se) := by kernel_rfl
abbrev TrEnd (gl : List (Nat × SVal)) (y z : Int) (d : Dv) : Prop := Tr.sat (newQ (envK gl [] 2) (.tuple []) ([(0, .cells (eCells 1 2 (dEnd d y z))), (1, .recs .u32 (dEnd d y z).keys), (2, .recs seenT (dEnd d y z).seen)]) (2 + 1)) (run (envK gl [] 2) [] (bodyOf Tryz.f74) (S1 [.ptr 0 0, .int .i64 (.full y), .int .u32 (.full z)] [(0, some (.cells (eCells 1 2 d))), (1, some (.recs .u32 d.keys)), (2, some (.recs seenT d.seen))] 3 35) (ends (envK gl [] 2) Tryz.f74.results.toList))
theorem runrEnd (gl : List (Nat × SVal)) (y z : Int) (d : Dv) : (TrEnd gl y z d) = (
  IT (decide (y = 3)) (RQ (List.length d.seen + List.length [(y, (0 : Int), z)] ≤ 137438953472) (d.sec = (dEnd d y z).sec ∧ d.at_ = (dEnd d y z).at_ ∧ d.on = (dEnd d y z).on ∧ d.keys = (dEnd d y z).keys ∧ d.seen ++ [(y, (0 : Int), z)] = (dEnd d y z).seen)) (IT (decide (y = 4)) (RQ (List.length d.seen + List.length [(y, z, (0 : Int))] ≤ 137438953472) (d.sec = (dEnd d y z).sec ∧ d.at_ = (dEnd d y z).at_ ∧ d.on = (dEnd d y z).on ∧ d.keys = (dEnd d y z).keys ∧ d.seen ++ [(y, z, (0 : Int))] = (dEnd d y z).seen)) (d.sec = (dEnd d y z).sec ∧ d.at_ = (dEnd d y z).at_ ∧ d.on = (dEnd d y z).on ∧ d.keys = (dEnd d y z).keys ∧ d.seen = (dEnd d y z).seen))) := by kernel_rfl
theorem grEnd (y z : Int) (d : Dv) (hv : few d.seen) : Box (TrEnd gl y z d) := by
  refine .of (runrEnd gl y z d) ?_
  unfold few at hv
  unfold dEnd
  refine ⟨fun h => ?_, fun h => ⟨fun h2 => ?_, fun h2 => ?_⟩⟩
  · have h := of_decide_eq_true h
    subst h
    exact ⟨by simp only [List.length_singleton]; omega, fun _ => by simp⟩
  · have h2 := of_decide_eq_true h2
    subst h2
    exact ⟨by simp only [List.length_singleton]; omega, fun _ => by simp⟩
  · have h := of_decide_eq_false h
    have h2 := of_decide_eq_false h2
    simp [h, h2]
theorem crEnd : Con ea has gl 74 krEnd := by
  refine gen_mk Tryz.func74 35 2 (con := []) trivial (fun hA hr hv => ?_) (by kernel_rfl) (by kernel_rfl) Tryz.ntmps74
  unfold krEnd at hr; split at hr
  · rename_i q y z
    simp only [Acc.run] at hr
    split at hr
    · rename_i k e sc at_ on hq
      simp only [Acc.run] at hr
      split at hr
      · rename_i ks hk
        simp only [Acc.run] at hr
        split at hr
        · rename_i se he
          split at hr
          · rename_i hnd
            have := ret_ok hr; subst this
            refine ⟨[q, k], [e], (rC0 ks sc on at_ se), [.ptr 0 0, .int .i64 y, .int .u32 z], (S1 [.ptr 0 0, .int .i64 (.full y.val), .int .u32 (.full z.val)] [(0, some (.cells (eCells 1 2 (dV ks sc on at_ se)))), (1, some (.recs .u32 (dV ks sc on at_ se).keys)), (2, some (.recs seenT (dV ks sc on at_ se).seen))] 3 35), [], .tuple [], [(0, .cells (eCells 1 2 (dEnd (dV ks sc on at_ se) y.val z.val))), (1, .recs .u32 (dEnd (dV ks sc on at_ se) y.val z.val).keys), (2, .recs seenT (dEnd (dV ks sc on at_ se) y.val z.val).seen)], 1, rfl, rfl, ⟨rfl, rfl, rfl⟩, hnd, ⟨hq, hk, he, trivial⟩, rfl, rfl, .of (fitrEnd gl y z sc on at_ ks se) (by simp [nilR]), rfl, (fun W R ρ0 own0 hown => noSums (by kernel_rfl)), grEnd y.val z.val ⟨ks, sc, on.val, at_.val, se⟩ (hv _ rfl)⟩
          · cases hr
        · cases hr
      · cases hr
    · cases hr
  · cases hr
def krGet0 : List SVal → Nat → Acc ORes := fun a n => match a with | [.rop [.ro .u32 ks, .ro (.flat (.int .i64) [.int .u32, .int .u32]) se, .arr .u32 16 sc, .int .i64 at_, .bool on], .int .u32 y] => .ret ({ v := .int .u32 (.full (dGet (dV ks sc on at_ se) y.val)) }) | _ => .fail "rGet0"
theorem argrGet0 (ks : List Int) (se : List (Int × Int × Int)) (sc : List Int) (at_ : SI) (on : SB) (y : SI) : (all (subL tAtN none' [] deep [.rop [.ro .u32 ks, .ro (.flat (.int .i64) [.int .u32, .int .u32]) se, .arr .u32 16 sc, .int .i64 at_, .bool on], .int .u32 y] [.rop [.ro .u32 (dV ks sc on at_ se).keys, .ro seenT (dV ks sc on at_ se).seen, .arr .u32 16 (dV ks sc on at_ se).sec, .int .i64 (.full (dV ks sc on at_ se).at_), .bool (.sym (dV ks sc on at_ se).on)], .int .u32 (.full y.val)])) = (
  ks = ks ∧ se = se ∧ sc = sc ∧ SI.val at_ = SI.val at_ ∧ SB.val on = SB.val on ∧ SI.val y = SI.val y) := by kernel_rfl
abbrev TrGet0 (gl : List (Nat × SVal)) (d : Dv) (y : Int) : Prop := Tr.sat (plainQ (.int .u32 (.full (dGet d y)))) (run (env gl []) [] (bodyOf Tryz.f85) (start [.rop [.ro .u32 d.keys, .ro seenT d.seen, .arr .u32 16 d.sec, .int .i64 (.full d.at_), .bool (.sym d.on)], .int .u32 (.full y)] 12) (ends (env gl []) Tryz.f85.results.toList))
theorem runrGet0 (gl : List (Nat × SVal)) (d : Dv) (y : Int) : (TrGet0 gl d y) = (
  RQ (0 ≤ y % Int.ofNat (nat_lit 15 + (1 : Nat)) ∧ y % Int.ofNat (nat_lit 15 + (1 : Nat)) < ((16 : Nat) : Int)) (List.getD d.sec (Int.toNat (y % Int.ofNat (nat_lit 15 + (1 : Nat)))) (RT.dflt RT.u32) = dGet d y)) := by kernel_rfl
theorem grGet0 (d : Dv) (y : Int)  : Box (TrGet0 gl d y) := by
  refine .of (runrGet0 gl d y) ?_
  have o16 : Int.ofNat (15 + 1) = 16 := rfl
  rw [o16]
  exact ⟨by omega, fun _ => rfl⟩
theorem crGet0 : Con ea has gl 85 krGet0 := by
  refine plain_mkB Tryz.func85 12 (con := []) trivial (fun hA hr hv => ?_) (by kernel_rfl) (by kernel_rfl) Tryz.ntmps85
  unfold krGet0 at hr; split at hr
  · rename_i ks se sc at_ on y
    have := ret_ok hr; subst this
    exact ⟨_, [], rfl, rfl, .of (argrGet0 ks se sc at_ on y) (by simp), rfl, (fun W R ρ0 own0 hown => noSums (by kernel_rfl)), grGet0 ⟨ks, sc, on.val, at_.val, se⟩ y.val ⟩
  · cases hr
abbrev krGet := bor [.box [.ro .u32, .ro seenT, .any, .any, .any], .any] krGet0
theorem crGet : Con ea has gl 85 krGet := bor_ok crGet0 _
def krDue0 : List SVal → Nat → Acc ORes := fun a n => match a with | [.rop [.ro .u32 ks, .ro (.flat (.int .i64) [.int .u32, .int .u32]) se, .arr .u32 16 sc, .int .i64 at_, .bool on], .int .i64 y] => .ret ({ v := .bool (.sym (dDue (dV ks sc on at_ se) y.val)) }) | _ => .fail "rDue0"
theorem argrDue0 (ks : List Int) (se : List (Int × Int × Int)) (sc : List Int) (at_ : SI) (on : SB) (y : SI) : (all (subL tAtN none' [] deep [.rop [.ro .u32 ks, .ro (.flat (.int .i64) [.int .u32, .int .u32]) se, .arr .u32 16 sc, .int .i64 at_, .bool on], .int .i64 y] [.rop [.ro .u32 (dV ks sc on at_ se).keys, .ro seenT (dV ks sc on at_ se).seen, .arr .u32 16 (dV ks sc on at_ se).sec, .int .i64 (.full (dV ks sc on at_ se).at_), .bool (.sym (dV ks sc on at_ se).on)], .int .i64 (.full y.val)])) = (
  ks = ks ∧ se = se ∧ sc = sc ∧ SI.val at_ = SI.val at_ ∧ SB.val on = SB.val on ∧ SI.val y = SI.val y) := by kernel_rfl
abbrev TrDue0 (gl : List (Nat × SVal)) (d : Dv) (y : Int) : Prop := Tr.sat (plainQ (.bool (.sym (dDue d y)))) (run (env gl []) [] (bodyOf Tryz.f73) (start [.rop [.ro .u32 d.keys, .ro seenT d.seen, .arr .u32 16 d.sec, .int .i64 (.full d.at_), .bool (.sym d.on)], .int .i64 (.full y)] 17) (ends (env gl []) Tryz.f73.results.toList))
theorem runrDue0 (gl : List (Nat × SVal)) (d : Dv) (y : Int) : (TrDue0 gl d y) = (
  (d.on && decide (d.at_ ≤ y)) = dDue d y) := by kernel_rfl
theorem grDue0 (d : Dv) (y : Int)  : Box (TrDue0 gl d y) := by
  refine .of (runrDue0 gl d y) ?_
  rfl
theorem crDue0 : Con ea has gl 73 krDue0 := by
  refine plain_mkB Tryz.func73 17 (con := []) trivial (fun hA hr hv => ?_) (by kernel_rfl) (by kernel_rfl) Tryz.ntmps73
  unfold krDue0 at hr; split at hr
  · rename_i ks se sc at_ on y
    have := ret_ok hr; subst this
    exact ⟨_, [], rfl, rfl, .of (argrDue0 ks se sc at_ on y) (by simp), rfl, (fun W R ρ0 own0 hown => noSums (by kernel_rfl)), grDue0 ⟨ks, sc, on.val, at_.val, se⟩ y.val ⟩
  · cases hr
abbrev krDue := bor [.box [.ro .u32, .ro seenT, .any, .any, .any], .any] krDue0
theorem crDue : Con ea has gl 73 krDue := bor_ok crDue0 _
def krEnter : List SVal → Nat → Acc ORes := fun a n => match a with | [.agg [.arr .u32 16 x, .int .u32 pc, .bool ie, .bool eie, .int .u32 epc, .int .u32 tv, .int .u32 ca, .int .u32 ad], .int .i64 y, .int .u32 z] => .ret ({ v := .tuple [.agg (enterC (⟨x, pc.val, ie.val, eie.val, epc.val, tv.val, ca.val, ad.val⟩ : Cpu) y.val z.val).enc, .bool (.sym (enterB (⟨x, pc.val, ie.val, eie.val, epc.val, tv.val, ca.val, ad.val⟩ : Cpu)))] }) | _ => .fail "rEnter"
theorem argrEnter (x : List Int) (pc : SI) (ie eie : SB) (epc tv ca ad : SI) (y z : SI) : (all (subL tAtN none' [] deep [.agg [.arr .u32 16 x, .int .u32 pc, .bool ie, .bool eie, .int .u32 epc, .int .u32 tv, .int .u32 ca, .int .u32 ad], .int .i64 y, .int .u32 z] [.agg (⟨x, pc.val, ie.val, eie.val, epc.val, tv.val, ca.val, ad.val⟩ : Cpu).enc, .int .i64 (.full y.val), .int .u32 (.full z.val)])) = (
  x = x ∧ SI.val pc = SI.val pc ∧ SB.val ie = SB.val ie ∧ SB.val eie = SB.val eie ∧ SI.val epc = SI.val epc ∧ SI.val tv = SI.val tv ∧ SI.val ca = SI.val ca ∧ SI.val ad = SI.val ad ∧ SI.val y = SI.val y ∧ SI.val z = SI.val z) := by kernel_rfl
abbrev TrEnter (gl : List (Nat × SVal)) (p : Cpu) (y z : Int) : Prop := Tr.sat (plainQ (.tuple [.agg (enterC p y z).enc, .bool (.sym (enterB p))])) (run (env gl []) [] (bodyOf Tryz.f37) (start [.agg p.enc, .int .i64 (.full y), .int .u32 (.full z)] 28) (ends (env gl []) Tryz.f37.results.toList))
theorem runrEnter (gl : List (Nat × SVal)) (p : Cpu) (y z : Int) : (TrEnter gl p y z) = (
  IT (decide (p.tv = 0)) (p.r = (enterC p y z).r ∧ p.pc = (enterC p y z).pc ∧ p.ie = (enterC p y z).ie ∧ p.eie = (enterC p y z).eie ∧ p.epc = (enterC p y z).epc ∧ p.tv = (enterC p y z).tv ∧ p.cause = (enterC p y z).cause ∧ p.addr = (enterC p y z).addr ∧ false = enterB p) (p.r = (enterC p y z).r ∧ p.tv = (enterC p y z).pc ∧ false = (enterC p y z).ie ∧ p.ie = (enterC p y z).eie ∧ p.pc = (enterC p y z).epc ∧ p.tv = (enterC p y z).tv ∧ IntKind.wrap IntKind.u32 y = (enterC p y z).cause ∧ z = (enterC p y z).addr ∧ true = enterB p)) := by kernel_rfl
theorem grEnter (p : Cpu) (y z : Int)  : Box (TrEnter gl p y z) := by
  refine .of (runrEnter gl p y z) ?_
  unfold enterC enterB
  refine ⟨fun h => ?_, fun h => ?_⟩
  · have h := of_decide_eq_true h
    simp [h]
  · have h := of_decide_eq_false h
    simp [h]
theorem crEnter : Con ea has gl 37 krEnter := by
  refine plain_mkB Tryz.func37 28 (con := []) trivial (fun hA hr hv => ?_) (by kernel_rfl) (by kernel_rfl) Tryz.ntmps37
  unfold krEnter at hr; split at hr
  · rename_i x pc ie eie epc tv ca ad y z
    have := ret_ok hr; subst this
    exact ⟨_, [], rfl, rfl, .of (argrEnter x pc ie eie epc tv ca ad y z) (by simp), rfl, (fun W R ρ0 own0 hown => noSums (by kernel_rfl)), grEnter ⟨x, pc.val, ie.val, eie.val, epc.val, tv.val, ca.val, ad.val⟩ y.val z.val ⟩
  · cases hr
def krReturn : List SVal → Nat → Acc ORes := fun a n => match a with | [.agg [.arr .u32 16 x, .int .u32 pc, .bool ie, .bool eie, .int .u32 epc, .int .u32 tv, .int .u32 ca, .int .u32 ad]] => .ret ({ v := .agg (returnC (⟨x, pc.val, ie.val, eie.val, epc.val, tv.val, ca.val, ad.val⟩ : Cpu)).enc }) | _ => .fail "rReturn"
theorem argrReturn (x : List Int) (pc : SI) (ie eie : SB) (epc tv ca ad : SI) : (all (subL tAtN none' [] deep [.agg [.arr .u32 16 x, .int .u32 pc, .bool ie, .bool eie, .int .u32 epc, .int .u32 tv, .int .u32 ca, .int .u32 ad]] [.agg (⟨x, pc.val, ie.val, eie.val, epc.val, tv.val, ca.val, ad.val⟩ : Cpu).enc])) = (
  x = x ∧ SI.val pc = SI.val pc ∧ SB.val ie = SB.val ie ∧ SB.val eie = SB.val eie ∧ SI.val epc = SI.val epc ∧ SI.val tv = SI.val tv ∧ SI.val ca = SI.val ca ∧ SI.val ad = SI.val ad) := by kernel_rfl
abbrev TrReturn (gl : List (Nat × SVal)) (p : Cpu) : Prop := Tr.sat (plainQ (.agg (returnC p).enc)) (run (env gl []) [] (bodyOf Tryz.f81) (start [.agg p.enc] 12) (ends (env gl []) Tryz.f81.results.toList))
theorem runrReturn (gl : List (Nat × SVal)) (p : Cpu) : (TrReturn gl p) = (
  p.r = (returnC p).r ∧ p.epc = (returnC p).pc ∧ p.eie = (returnC p).ie ∧ false = (returnC p).eie ∧ (0 : Int) = (returnC p).epc ∧ p.tv = (returnC p).tv ∧ p.cause = (returnC p).cause ∧ p.addr = (returnC p).addr) := by kernel_rfl
theorem grReturn (p : Cpu)  : Box (TrReturn gl p) := by
  refine .of (runrReturn gl p) ?_
  exact ⟨rfl, rfl, rfl, rfl, rfl, rfl, rfl, rfl⟩
theorem crReturn : Con ea has gl 81 krReturn := by
  refine plain_mkB Tryz.func81 12 (con := []) trivial (fun hA hr hv => ?_) (by kernel_rfl) (by kernel_rfl) Tryz.ntmps81
  unfold krReturn at hr; split at hr
  · rename_i x pc ie eie epc tv ca ad
    have := ret_ok hr; subst this
    exact ⟨_, [], rfl, rfl, .of (argrReturn x pc ie eie epc tv ca ad) (by simp), rfl, (fun W R ρ0 own0 hown => noSums (by kernel_rfl)), grReturn ⟨x, pc.val, ie.val, eie.val, epc.val, tv.val, ca.val, ad.val⟩ ⟩
  · cases hr
def krWaits0 : List SVal → Nat → Acc ORes := fun a n => match a with | [.agg [.arr .u32 16 x, .int .u32 pc, .bool ie, .bool eie, .int .u32 epc, .int .u32 tv, .int .u32 ca, .int .u32 ad], .rop [.ro .u32 ks, .ro (.flat (.int .i64) [.int .u32, .int .u32]) se, .arr .u32 16 sc, .int .i64 at_, .bool on], .int .i64 y, .bool z] => .ret ({ v := .int .i64 (.full (waitsW (⟨x, pc.val, ie.val, eie.val, epc.val, tv.val, ca.val, ad.val⟩ : Cpu) (dV ks sc on at_ se) y.val z.val)) }) | _ => .fail "rWaits0"
theorem argrWaits0 (x : List Int) (pc : SI) (ie eie : SB) (epc tv ca ad : SI) (ks : List Int) (se : List (Int × Int × Int)) (sc : List Int) (at_ : SI) (on : SB) (y : SI) (z : SB) : (all (subL tAtN none' [] deep [.agg [.arr .u32 16 x, .int .u32 pc, .bool ie, .bool eie, .int .u32 epc, .int .u32 tv, .int .u32 ca, .int .u32 ad], .rop [.ro .u32 ks, .ro (.flat (.int .i64) [.int .u32, .int .u32]) se, .arr .u32 16 sc, .int .i64 at_, .bool on], .int .i64 y, .bool z] [.agg (⟨x, pc.val, ie.val, eie.val, epc.val, tv.val, ca.val, ad.val⟩ : Cpu).enc, .rop [.ro .u32 (dV ks sc on at_ se).keys, .ro seenT (dV ks sc on at_ se).seen, .arr .u32 16 (dV ks sc on at_ se).sec, .int .i64 (.full (dV ks sc on at_ se).at_), .bool (.sym (dV ks sc on at_ se).on)], .int .i64 (.full y.val), .bool (.sym z.val)])) = (
  x = x ∧ SI.val pc = SI.val pc ∧ SB.val ie = SB.val ie ∧ SB.val eie = SB.val eie ∧ SI.val epc = SI.val epc ∧ SI.val tv = SI.val tv ∧ SI.val ca = SI.val ca ∧ SI.val ad = SI.val ad ∧ ks = ks ∧ se = se ∧ sc = sc ∧ SI.val at_ = SI.val at_ ∧ SB.val on = SB.val on ∧ SI.val y = SI.val y ∧ SB.val z = SB.val z) := by kernel_rfl
abbrev TrWaits0 (gl : List (Nat × SVal)) (p : Cpu) (d : Dv) (y : Int) (z : Bool) : Prop := Tr.sat (plainQ (.int .i64 (.full (waitsW p d y z)))) (run (env gl [(73, krDue)]) [] (bodyOf Tryz.f36) (start [.agg p.enc, .rop [.ro .u32 d.keys, .ro seenT d.seen, .arr .u32 16 d.sec, .int .i64 (.full d.at_), .bool (.sym d.on)], .int .i64 (.full y), .bool (.sym z)] 26) (ends (env gl [(73, krDue)]) Tryz.f36.results.toList))
theorem runrWaits0 (gl : List (Nat × SVal)) (p : Cpu) (d : Dv) (y : Int) (z : Bool) : (TrWaits0 gl p d y z) = (
  IT (!p.ie) ((0 : Int) = waitsW p d y z) (IT (dDue d y) ((2 : Int) = waitsW p d y z) (IT (decide (0 < ((List.length d.keys) : Int))) ((3 : Int) = waitsW p d y z) (IT z ((5 : Int) = waitsW p d y z) ((0 : Int) = waitsW p d y z))))) := by kernel_rfl
theorem grWaits0 (p : Cpu) (d : Dv) (y : Int) (z : Bool)  : Box (TrWaits0 gl p d y z) := by
  refine .of (runrWaits0 gl p d y z) ?_
  unfold waitsW
  refine ⟨fun h => ?_, fun h => ⟨fun h2 => ?_, fun h2 => ⟨fun h3 => ?_, fun h3 => ⟨fun h4 => ?_, fun h4 => ?_⟩⟩⟩⟩ <;> simp_all
theorem crWaits0 : Con ea has gl 36 krWaits0 := by
  refine plain_mkB Tryz.func36 26 (con := [(73, krDue)]) ⟨crDue, trivial⟩ (fun hA hr hv => ?_) (by kernel_rfl) (by kernel_rfl) Tryz.ntmps36
  unfold krWaits0 at hr; split at hr
  · rename_i x pc ie eie epc tv ca ad ks se sc at_ on y z
    have := ret_ok hr; subst this
    exact ⟨_, [], rfl, rfl, .of (argrWaits0 x pc ie eie epc tv ca ad ks se sc at_ on y z) (by simp), rfl, (fun W R ρ0 own0 hown => noSums (by kernel_rfl)), grWaits0 ⟨x, pc.val, ie.val, eie.val, epc.val, tv.val, ca.val, ad.val⟩ ⟨ks, sc, on.val, at_.val, se⟩ y.val z.val ⟩
  · cases hr
abbrev krWaits := bor [.any, .box [.ro .u32, .ro seenT, .any, .any, .any], .any, .any] krWaits0
theorem crWaits : Con ea has gl 36 krWaits := bor_ok crWaits0 _
end
end Go.Proofs.YtpjccdncokamlaaGreatDoor

