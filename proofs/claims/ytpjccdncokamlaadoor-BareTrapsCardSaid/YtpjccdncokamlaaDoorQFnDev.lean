/- Contracts that the proofs use. -/
import Derived.Test.YtpjccdncokamlaaDoorQFnEq7
import Derived.Test.YtpjccdncokamlaaDoorQBareM
import Derived.Test.YtpjccdncokamlaaDoorQSyLend
set_option linter.unusedVariables false
set_option linter.unusedSimpArgs false
namespace Go.Proofs.YtpjccdncokamlaaDoor
open Go.RowKit Go.Sy Go.Fac
section
variable {ea : Ear} {has : Int → Prop} {gl : List (Nat × SVal)}
abbrev dCells (a b : Nat) (d : Dv) : List SVal := [.own a, .arr .u32 16 d.sec, .bool (.sym d.on), .int .i64 (.full d.at_), .own b]
abbrev eCells (a b : Nat) (d : Dv) : List SVal := [.own a, .own b, .arr .u32 16 d.sec, .int .i64 (.full d.at_), .bool (.sym d.on)]
def few {α : Type} (l : List α) : Prop := l.length ≤ 1000000
theorem runCloneW0 (gl : List (Nat × SVal)) : (Tr.sat (newQ (env gl []) (.own 0) [(0, .recs .u32 [])] 1) (run (env gl []) [] (bodyOf Tryd.f45) (start [.nilslice] 8) (ends (env gl []) Tryd.f45.results.toList))) = (
  @List.nil (RT.ty RT.u32) = @List.nil (RT.ty RT.u32)) := by kernel_rfl
theorem runCloneW1 (gl : List (Nat × SVal)) (l : List Int) : (Tr.sat (newQ (env gl []) (.own 0) [(0, .recs .u32 l)] 1) (run (env gl []) [] (bodyOf Tryd.f45) (start [.roN .u32 l] 8) (ends (env gl []) Tryd.f45.results.toList))) = (
  List.length (@List.nil (RT.ty RT.u32)) + List.length l ≤ (137438953472 : Nat) ∧ (List.length (@List.nil (RT.ty RT.u32)) + List.length l ≤ (137438953472 : Nat) → @List.nil (RT.ty RT.u32) ++ l = l)) := by kernel_rfl
theorem cCloneW0 : Con ea has gl 45 (kClone .u32) := by
  refine clone_mk Tryd.func45 8 ?_ ?_ (by kernel_rfl) (by kernel_rfl) (by kernel_rfl) Tryd.ntmps45 rfl
  · have := runCloneW0 gl; exact this.mpr rfl
  · intro l hl; exact (runCloneW1 gl l).mpr ⟨by simpa using hl, fun _ => rfl⟩
abbrev kCloneW := borN [.ro .u32] (kClone .u32)
theorem cCloneW : Con ea has gl 45 kCloneW := borN_ok cCloneW0 _
theorem runCloneSn0 (gl : List (Nat × SVal)) : (Tr.sat (newQ (env gl []) (.own 0) [(0, .recs seenT [])] 1) (run (env gl []) [] (bodyOf Tryd.f57) (start [.nilslice] 8) (ends (env gl []) Tryd.f57.results.toList))) = (
  @List.nil (RT.ty (RT.flat (FK.int IntKind.i64) [FK.int IntKind.u32, FK.int IntKind.u32])) = @List.nil (RT.ty seenT)) := by kernel_rfl
theorem runCloneSn1 (gl : List (Nat × SVal)) (l : List (Int × Int × Int)) : (Tr.sat (newQ (env gl []) (.own 0) [(0, .recs seenT l)] 1) (run (env gl []) [] (bodyOf Tryd.f57) (start [.roN seenT l] 8) (ends (env gl []) Tryd.f57.results.toList))) = (
  List.length (@List.nil (RT.ty (RT.flat (FK.int IntKind.i64) [FK.int IntKind.u32, FK.int IntKind.u32]))) + List.length l ≤ (137438953472 : Nat) ∧ (List.length (@List.nil (RT.ty (RT.flat (FK.int IntKind.i64) [FK.int IntKind.u32, FK.int IntKind.u32]))) + List.length l ≤ (137438953472 : Nat) → @List.nil (RT.ty (RT.flat (FK.int IntKind.i64) [FK.int IntKind.u32, FK.int IntKind.u32])) ++ l = l)) := by kernel_rfl
theorem cCloneSn0 : Con ea has gl 57 (kClone seenT) := by
  refine clone_mk Tryd.func57 8 ?_ ?_ (by kernel_rfl) (by kernel_rfl) (by kernel_rfl) Tryd.ntmps57 rfl
  · have := runCloneSn0 gl; exact this.mpr rfl
  · intro l hl; exact (runCloneSn1 gl l).mpr ⟨by simpa using hl, fun _ => rfl⟩
abbrev kCloneSn := borN [.ro seenT] (kClone seenT)
theorem cCloneSn : Con ea has gl 57 kCloneSn := borN_ok cCloneSn0 _
def kmNew : List SVal → Nat → Acc ORes := fun a n => match a with | [.int .i64 n'] => .ret (newR n (.tuple [.ptr 0 0, .nilIface]) ([(0, .cells [.own 1]), (1, .recs .u32 (List.replicate (n'.val * 16).toNat 0))]) 2 (some (1 ≤ n'.val ∧ n'.val ≤ 1024))) | _ => .fail "mNew"
theorem argmNew (n' : SI) : (all (subL tAtN none' [] deep [.int .i64 n'] [.int .i64 (.full n'.val)])) = (
  SI.val n' = SI.val n') := by kernel_rfl
theorem runmNew (gl : List (Nat × SVal)) (n : Int) : (Tr.sat (newQ (env gl []) (.tuple [.ptr 0 0, .nilIface]) ([(0, .cells [.own 1]), (1, .recs .u32 (List.replicate (n * 16).toNat 0))]) 2) (run (env gl []) [(1000000, cutL { fr := [(0, .int .i64 (.sym n 1 1024))], hp := [], next := 0, sz := 16 })] (bodyOf Tryd.f28) (start [.int .i64 (.full n)] 16) (ends (env gl []) Tryd.f28.results.toList))) = (
  (n = n ∧ (1 : Int) ≤ n ∧ n ≤ (1024 : Int)) ∧ (n = n ∧ (1 : Int) ≤ n ∧ n ≤ (1024 : Int) → ((0 : Int) ≤ n * (16 : Int) ∧ n * (16 : Int) ≤ n * (16 : Int) ∧ n * (16 : Int) ≤ (137438953472 : Int)) ∧ ((0 : Int) ≤ n * (16 : Int) ∧ n * (16 : Int) ≤ n * (16 : Int) ∧ n * (16 : Int) ≤ (137438953472 : Int) → List.replicate (Int.toNat (n * (16 : Int))) (RT.dflt RT.u32) = List.replicate (Int.toNat (n * (16 : Int))) (0 : RT.ty RT.u32)))) := by kernel_rfl
set_option maxHeartbeats 4000000 in
theorem gmNew (n : Int)  (hv : 1 ≤ n ∧ n ≤ 1024) : Box (Tr.sat (newQ (env gl []) (.tuple [.ptr 0 0, .nilIface]) ([(0, .cells [.own 1]), (1, .recs .u32 (List.replicate (n * 16).toNat 0))]) 2) (run (env gl []) [(1000000, cutL { fr := [(0, .int .i64 (.sym n 1 1024))], hp := [], next := 0, sz := 16 })] (bodyOf Tryd.f28) (start [.int .i64 (.full n)] 16) (ends (env gl []) Tryd.f28.results.toList))) := by
  refine .of (runmNew gl n) ?_
  exact ⟨⟨rfl, hv⟩, fun _ => ⟨by omega, fun _ => rfl⟩⟩
set_option maxHeartbeats 4000000 in
theorem cmNew : Con ea has gl 28 kmNew := by
  refine new_mkB Tryd.func28 16 (con := []) trivial (fun hA hr hv => ?_) (by kernel_rfl) (by kernel_rfl) Tryd.ntmps28
  unfold kmNew at hr; split at hr
  · rename_i n'
    have := ret_ok hr; subst this
    replace hv := hv _ rfl
    exact ⟨_, [(1000000, cutL { fr := [(0, .int .i64 (.sym n'.val 1 1024))], hp := [], next := 0, sz := 16 })], _, _, _, ⟨rfl, rfl, rfl⟩, .of (argmNew n') (by simp), rfl, rfl, (fun W R ρ0 own0 hown => noSums (by kernel_rfl)), gmNew n'.val  hv⟩
  · cases hr
def krNew : List SVal → Nat → Acc ORes := fun a n => match a with | [.int .i64 n'] => .ret (newR n (.ptr 0 0) ([(0, .cells [.own 1]), (1, .recs .u32 (List.replicate (n'.val * 16).toNat 0))]) 2 (some (1 ≤ n'.val ∧ n'.val ≤ 1024))) | _ => .fail "rNew"
theorem argrNew (n' : SI) : (all (subL tAtN none' [] deep [.int .i64 n'] [.int .i64 (.full n'.val)])) = (
  SI.val n' = SI.val n') := by kernel_rfl
theorem runrNew (gl : List (Nat × SVal)) (n : Int) : (Tr.sat (newQ (env gl []) (.ptr 0 0) ([(0, .cells [.own 1]), (1, .recs .u32 (List.replicate (n * 16).toNat 0))]) 2) (run (env gl []) [(1000000, cutL { fr := [(0, .int .i64 (.sym n 1 1024))], hp := [], next := 0, sz := 8 })] (bodyOf Tryd.f29) (start [.int .i64 (.full n)] 8) (ends (env gl []) Tryd.f29.results.toList))) = (
  (n = n ∧ (1 : Int) ≤ n ∧ n ≤ (1024 : Int)) ∧ (n = n ∧ (1 : Int) ≤ n ∧ n ≤ (1024 : Int) → ((0 : Int) ≤ (16 : Int) * n ∧ (16 : Int) * n ≤ (16 : Int) * n ∧ (16 : Int) * n ≤ (137438953472 : Int)) ∧ ((0 : Int) ≤ (16 : Int) * n ∧ (16 : Int) * n ≤ (16 : Int) * n ∧ (16 : Int) * n ≤ (137438953472 : Int) → List.replicate (Int.toNat ((16 : Int) * n)) (RT.dflt RT.u32) = List.replicate (Int.toNat (n * (16 : Int))) (0 : RT.ty RT.u32)))) := by kernel_rfl
set_option maxHeartbeats 4000000 in
theorem grNew (n : Int)  (hv : 1 ≤ n ∧ n ≤ 1024) : Box (Tr.sat (newQ (env gl []) (.ptr 0 0) ([(0, .cells [.own 1]), (1, .recs .u32 (List.replicate (n * 16).toNat 0))]) 2) (run (env gl []) [(1000000, cutL { fr := [(0, .int .i64 (.sym n 1 1024))], hp := [], next := 0, sz := 8 })] (bodyOf Tryd.f29) (start [.int .i64 (.full n)] 8) (ends (env gl []) Tryd.f29.results.toList))) := by
  refine .of (runrNew gl n) ?_
  exact ⟨⟨rfl, hv⟩, fun _ => ⟨by omega, fun _ => by rw [Int.mul_comm]; rfl⟩⟩
set_option maxHeartbeats 4000000 in
theorem crNew : Con ea has gl 29 krNew := by
  refine new_mkB Tryd.func29 8 (con := []) trivial (fun hA hr hv => ?_) (by kernel_rfl) (by kernel_rfl) Tryd.ntmps29
  unfold krNew at hr; split at hr
  · rename_i n'
    have := ret_ok hr; subst this
    replace hv := hv _ rfl
    exact ⟨_, [(1000000, cutL { fr := [(0, .int .i64 (.sym n'.val 1 1024))], hp := [], next := 0, sz := 8 })], _, _, _, ⟨rfl, rfl, rfl⟩, .of (argrNew n') (by simp), rfl, rfl, (fun W R ρ0 own0 hown => noSums (by kernel_rfl)), grNew n'.val  hv⟩
  · cases hr
def kmClone0 : List SVal → Nat → Acc ORes := fun a n => match a with | [.rop [.ro .u32 l]] => .ret (newR n (.ptr 0 0) ([(0, .cells [.own 1]), (1, .recs .u32 l)]) 2 (some (few l))) | _ => .fail "mClone0"
theorem argmClone0 (l : List Int) : (all (subL tAtN none' [] deep [.rop [.ro .u32 l]] [.rop [.ro .u32 l]])) = (
  l = l) := by kernel_rfl
theorem runmClone0 (gl : List (Nat × SVal)) (l : List Int) : (Tr.sat (newQ (env gl [(45, kCloneW)]) (.ptr 0 0) ([(0, .cells [.own 1]), (1, .recs .u32 l)]) 2) (run (env gl [(45, kCloneW)]) [] (bodyOf Tryd.f33) (start [.rop [.ro .u32 l]] 10) (ends (env gl [(45, kCloneW)]) Tryd.f33.results.toList))) = (
  List.length l ≤ (137438953472 : Nat) ∧ (List.length l ≤ (137438953472 : Nat) → l = l)) := by kernel_rfl
set_option maxHeartbeats 4000000 in
theorem gmClone0 (l : List Int)  (hv : few l) : Box (Tr.sat (newQ (env gl [(45, kCloneW)]) (.ptr 0 0) ([(0, .cells [.own 1]), (1, .recs .u32 l)]) 2) (run (env gl [(45, kCloneW)]) [] (bodyOf Tryd.f33) (start [.rop [.ro .u32 l]] 10) (ends (env gl [(45, kCloneW)]) Tryd.f33.results.toList))) := by
  refine .of (runmClone0 gl l) ?_
  unfold few at hv; exact ⟨by omega, fun _ => rfl⟩
set_option maxHeartbeats 4000000 in
theorem cmClone0 : Con ea has gl 33 kmClone0 := by
  refine new_mkB Tryd.func33 10 (con := [(45, kCloneW)]) ⟨cCloneW, trivial⟩ (fun hA hr hv => ?_) (by kernel_rfl) (by kernel_rfl) Tryd.ntmps33
  unfold kmClone0 at hr; split at hr
  · rename_i l
    have := ret_ok hr; subst this
    replace hv := hv _ rfl
    exact ⟨_, [], _, _, _, ⟨rfl, rfl, rfl⟩, .of (argmClone0 l) (by simp), rfl, rfl, (fun W R ρ0 own0 hown => noSums (by kernel_rfl)), gmClone0 l  hv⟩
  · cases hr
abbrev kmClone := borN [.box [.ro .u32]] kmClone0
theorem cmClone : Con ea has gl 33 kmClone := borN_ok cmClone0 _
def kmPress : List SVal → Nat → Acc ORes := fun a n => match a with
  | [.ptr q 0, .int .u32 y] => .look q fun cc => match cc with | some (.cells [.own k, .arr .u32 16 sc, .bool on, .int .i64 at_, .own e]) => (.look e fun cc => match cc with | some (.recs (.flat (.int .i64) [.int .u32, .int .u32]) se) => (.look k fun cc => match cc with | some (.recs .u32 ks) => (match nodupB [q, e, k] with | true => .ret (genR [q, e] (gone [k]) n (.bool (.sym (dPressB (⟨ks, sc, on.val, at_.val, se⟩ : Dv)))) ([(0, .cells (dCells 2 1 (dPress (⟨ks, sc, on.val, at_.val, se⟩ : Dv) y.val))), (1, .recs seenT (dPress (⟨ks, sc, on.val, at_.val, se⟩ : Dv) y.val).seen), (2, .recs .u32 (dPress (⟨ks, sc, on.val, at_.val, se⟩ : Dv) y.val).keys)]) 1) | false => .fail "mPress") | _ => .fail "mPress") | _ => .fail "mPress") | _ => .fail "mPress"
  | _ => .fail "mPress"
theorem fitmPress (gl : List (Nat × SVal)) (y : SI) (sc : List Int) (on : SB) (at_ : SI) (ks : List Int) (se : List (Int × Int × Int)) : (fits (envK gl [] 2) (S1 [.ptr 0 0, .int .u32 y] (numC 0 [.cells [.own 2, .arr .u32 16 sc, .bool on, .int .i64 at_, .own 1], .recs (.flat (.int .i64) [.int .u32, .int .u32]) se, .recs .u32 ks]) 3 21) (S1 [.ptr 0 0, .int .u32 (.full y.val)] [(0, some (.cells (dCells 2 1 (⟨ks, sc, on.val, at_.val, se⟩ : Dv)))), (1, some (.recs seenT (⟨ks, sc, on.val, at_.val, se⟩ : Dv).seen)), (2, some (.recs .u32 (⟨ks, sc, on.val, at_.val, se⟩ : Dv).keys))] 3 21)) = (
  SI.val y = SI.val y ∧ sc = sc ∧ SB.val on = SB.val on ∧ SI.val at_ = SI.val at_ ∧ se = se ∧ ks = ks) := by kernel_rfl
theorem runmPress (gl : List (Nat × SVal)) (y : Int) (d : Dv) : (Tr.sat (newQ (envK gl [] 2) (.bool (.sym (dPressB d))) ([(0, .cells (dCells 2 1 (dPress d y))), (1, .recs seenT (dPress d y).seen), (2, .recs .u32 (dPress d y).keys)]) (2 + 1)) (run (envK gl [] 2) [] (bodyOf Tryd.f41) (S1 [.ptr 0 0, .int .u32 (.full y)] [(0, some (.cells (dCells 2 1 d))), (1, some (.recs seenT d.seen)), (2, some (.recs .u32 d.keys))] 3 21) (ends (envK gl [] 2) Tryd.f41.results.toList))) = (
  (decide ((64 : Int) ≤ (↑(List.length d.keys) : Int)) = true → false = dPressB d ∧ d.sec = (dPress d y).sec ∧ d.on = (dPress d y).on ∧ d.at_ = (dPress d y).at_ ∧ d.seen = (dPress d y).seen ∧ d.keys = (dPress d y).keys) ∧ (decide ((64 : Int) ≤ (↑(List.length d.keys) : Int)) = false → List.length d.keys + List.length [y] ≤ (137438953472 : Nat) ∧ (List.length d.keys + List.length [y] ≤ (137438953472 : Nat) → true = dPressB d ∧ d.sec = (dPress d y).sec ∧ d.on = (dPress d y).on ∧ d.at_ = (dPress d y).at_ ∧ d.seen = (dPress d y).seen ∧ d.keys ++ [y] = (dPress d y).keys))) := by kernel_rfl
set_option maxHeartbeats 4000000 in
theorem gmPress (y : Int) (d : Dv)  : Box (Tr.sat (newQ (envK gl [] 2) (.bool (.sym (dPressB d))) ([(0, .cells (dCells 2 1 (dPress d y))), (1, .recs seenT (dPress d y).seen), (2, .recs .u32 (dPress d y).keys)]) (2 + 1)) (run (envK gl [] 2) [] (bodyOf Tryd.f41) (S1 [.ptr 0 0, .int .u32 (.full y)] [(0, some (.cells (dCells 2 1 d))), (1, some (.recs seenT d.seen)), (2, some (.recs .u32 d.keys))] 3 21) (ends (envK gl [] 2) Tryd.f41.results.toList))) := by
  refine .of (runmPress gl y d) ?_
  unfold dPress dPressB
  refine ⟨fun h => ?_, fun h => ?_⟩
  · have h := of_decide_eq_true h
    simp [h]
  · have h := of_decide_eq_false h
    simp only [List.length_singleton]
    exact ⟨by omega, fun _ => by simp [h]⟩
set_option maxHeartbeats 4000000 in
theorem cmPress : Con ea has gl 41 kmPress := by
  refine gen_mk Tryd.func41 21 2 (con := []) trivial (fun hA hr hv => ?_) (by kernel_rfl) (by kernel_rfl) Tryd.ntmps41
  unfold kmPress at hr; split at hr
  · rename_i q y
    simp only [Acc.run] at hr
    split at hr
    · rename_i k sc on at_ e hq
      simp only [Acc.run] at hr
      split at hr
      · rename_i se he
        simp only [Acc.run] at hr
        split at hr
        · rename_i ks hk
          split at hr
          · rename_i hnd
            have := ret_ok hr; subst this
            refine ⟨[q, e], [k], [.cells [.own 2, .arr .u32 16 sc, .bool on, .int .i64 at_, .own 1], .recs (.flat (.int .i64) [.int .u32, .int .u32]) se, .recs .u32 ks], [.ptr 0 0, .int .u32 y], (S1 [.ptr 0 0, .int .u32 (.full y.val)] [(0, some (.cells (dCells 2 1 (⟨ks, sc, on.val, at_.val, se⟩ : Dv)))), (1, some (.recs seenT (⟨ks, sc, on.val, at_.val, se⟩ : Dv).seen)), (2, some (.recs .u32 (⟨ks, sc, on.val, at_.val, se⟩ : Dv).keys))] 3 21), [], .bool (.sym (dPressB (⟨ks, sc, on.val, at_.val, se⟩ : Dv))), [(0, .cells (dCells 2 1 (dPress (⟨ks, sc, on.val, at_.val, se⟩ : Dv) y.val))), (1, .recs seenT (dPress (⟨ks, sc, on.val, at_.val, se⟩ : Dv) y.val).seen), (2, .recs .u32 (dPress (⟨ks, sc, on.val, at_.val, se⟩ : Dv) y.val).keys)], 1, rfl, rfl, ⟨rfl, rfl, rfl⟩, hnd, ⟨hq, he, hk, trivial⟩, rfl, rfl, .of (fitmPress gl y sc on at_ ks se) (by simp [nilR]), rfl, (fun W R ρ0 own0 hown => noSums (by kernel_rfl)), gmPress y.val ⟨ks, sc, on.val, at_.val, se⟩⟩
          · cases hr
        · cases hr
      · cases hr
    · cases hr
  · cases hr
def kmIn : List SVal → Nat → Acc ORes := fun a n => match a with
  | [.ptr q 0] => .look q fun cc => match cc with | some (.cells [.own k, .arr .u32 16 sc, .bool on, .int .i64 at_, .own e]) => (.look e fun cc => match cc with | some (.recs (.flat (.int .i64) [.int .u32, .int .u32]) se) => (.look k fun cc => match cc with | some (.recs .u32 ks) => (match nodupB [q, e, k] with | true => .ret (genR [q, e] (gone [k]) n (.int .u32 (.full (dInW (⟨ks, sc, on.val, at_.val, se⟩ : Dv)))) ([(0, .cells (dCells 2 1 (dIn (⟨ks, sc, on.val, at_.val, se⟩ : Dv)))), (1, .recs seenT (dIn (⟨ks, sc, on.val, at_.val, se⟩ : Dv)).seen), (2, .recs .u32 (dIn (⟨ks, sc, on.val, at_.val, se⟩ : Dv)).keys)]) 1 (some (few (⟨ks, sc, on.val, at_.val, se⟩ : Dv).keys))) | false => .fail "mIn") | _ => .fail "mIn") | _ => .fail "mIn") | _ => .fail "mIn"
  | _ => .fail "mIn"
theorem fitmIn (gl : List (Nat × SVal)) (sc : List Int) (on : SB) (at_ : SI) (ks : List Int) (se : List (Int × Int × Int)) : (fits (envK gl [(45, kCloneW)] 2) (S1 [.ptr 0 0] (numC 0 [.cells [.own 2, .arr .u32 16 sc, .bool on, .int .i64 at_, .own 1], .recs (.flat (.int .i64) [.int .u32, .int .u32]) se, .recs .u32 ks]) 3 26) (S1 [.ptr 0 0] [(0, some (.cells (dCells 2 1 (⟨ks, sc, on.val, at_.val, se⟩ : Dv)))), (1, some (.recs seenT (⟨ks, sc, on.val, at_.val, se⟩ : Dv).seen)), (2, some (.recs .u32 (⟨ks, sc, on.val, at_.val, se⟩ : Dv).keys))] 3 26)) = (
  sc = sc ∧ SB.val on = SB.val on ∧ SI.val at_ = SI.val at_ ∧ se = se ∧ ks = ks) := by kernel_rfl
theorem runmIn (gl : List (Nat × SVal)) (d : Dv) : (Tr.sat (newQ (envK gl [(45, kCloneW)] 2) (.int .u32 (.full (dInW d))) ([(0, .cells (dCells 2 1 (dIn d))), (1, .recs seenT (dIn d).seen), (2, .recs .u32 (dIn d).keys)]) (2 + 1)) (run (envK gl [(45, kCloneW)] 2) [] (bodyOf Tryd.f77) (S1 [.ptr 0 0] [(0, some (.cells (dCells 2 1 d))), (1, some (.recs seenT d.seen)), (2, some (.recs .u32 d.keys))] 3 26) (ends (envK gl [(45, kCloneW)] 2) Tryd.f77.results.toList))) = (
  (decide ((↑(List.length d.keys) : Int) = (0 : Int)) = true → (0 : Int) = dInW d ∧ d.sec = (dIn d).sec ∧ d.on = (dIn d).on ∧ d.at_ = (dIn d).at_ ∧ d.seen = (dIn d).seen ∧ d.keys = (dIn d).keys) ∧ (decide ((↑(List.length d.keys) : Int) = (0 : Int)) = false → ((0 : Int) ≤ (0 : Int) ∧ (0 : Int) < (↑(List.length d.keys) : Int)) ∧ ((0 : Int) ≤ (0 : Int) ∧ (0 : Int) < (↑(List.length d.keys) : Int) → ((0 : Int) ≤ (1 : Int) ∧ (1 : Int) ≤ (↑(List.length d.keys) : Int)) ∧ ((0 : Int) ≤ (1 : Int) ∧ (1 : Int) ≤ (↑(List.length d.keys) : Int) → List.length (List.take (List.length d.keys - Int.toNat (1 : Int)) (List.drop (Int.toNat (1 : Int)) d.keys)) ≤ (137438953472 : Nat) ∧ (List.length (List.take (List.length d.keys - Int.toNat (1 : Int)) (List.drop (Int.toNat (1 : Int)) d.keys)) ≤ (137438953472 : Nat) → List.getD d.keys (Int.toNat (0 : Int)) (RT.dflt RT.u32) = dInW d ∧ d.sec = (dIn d).sec ∧ d.on = (dIn d).on ∧ d.at_ = (dIn d).at_ ∧ d.seen = (dIn d).seen ∧ List.take (List.length d.keys - Int.toNat (1 : Int)) (List.drop (Int.toNat (1 : Int)) d.keys) = (dIn d).keys))))) := by kernel_rfl
set_option maxHeartbeats 4000000 in
theorem gmIn (d : Dv) (hv : few d.keys) : Box (Tr.sat (newQ (envK gl [(45, kCloneW)] 2) (.int .u32 (.full (dInW d))) ([(0, .cells (dCells 2 1 (dIn d))), (1, .recs seenT (dIn d).seen), (2, .recs .u32 (dIn d).keys)]) (2 + 1)) (run (envK gl [(45, kCloneW)] 2) [] (bodyOf Tryd.f77) (S1 [.ptr 0 0] [(0, some (.cells (dCells 2 1 d))), (1, some (.recs seenT d.seen)), (2, some (.recs .u32 d.keys))] 3 26) (ends (envK gl [(45, kCloneW)] 2) Tryd.f77.results.toList))) := by
  refine .of (runmIn gl d) ?_
  unfold few at hv
  refine ⟨fun h => ?_, fun h => ?_⟩
  · have h := of_decide_eq_true h
    have e : d.keys = [] := List.eq_nil_of_length_eq_zero (by omega)
    simp [dInW, dIn, e]
  · have h := of_decide_eq_false h
    have e : (d.keys.drop (Int.toNat 1)).take (d.keys.length - Int.toNat 1) = d.keys.drop 1 := by rw [List.take_of_length_le (by simp)]; rfl
    rw [e]
    exact ⟨by omega, fun _ => ⟨by omega, fun _ => ⟨by rw [List.length_drop]; omega, fun _ => ⟨rfl, rfl, rfl, rfl, rfl, rfl⟩⟩⟩⟩
set_option maxHeartbeats 4000000 in
theorem cmIn : Con ea has gl 77 kmIn := by
  refine gen_mk Tryd.func77 26 2 (con := [(45, kCloneW)]) ⟨cCloneW, trivial⟩ (fun hA hr hv => ?_) (by kernel_rfl) (by kernel_rfl) Tryd.ntmps77
  unfold kmIn at hr; split at hr
  · rename_i q
    simp only [Acc.run] at hr
    split at hr
    · rename_i k sc on at_ e hq
      simp only [Acc.run] at hr
      split at hr
      · rename_i se he
        simp only [Acc.run] at hr
        split at hr
        · rename_i ks hk
          split at hr
          · rename_i hnd
            have := ret_ok hr; subst this
            refine ⟨[q, e], [k], [.cells [.own 2, .arr .u32 16 sc, .bool on, .int .i64 at_, .own 1], .recs (.flat (.int .i64) [.int .u32, .int .u32]) se, .recs .u32 ks], [.ptr 0 0], (S1 [.ptr 0 0] [(0, some (.cells (dCells 2 1 (⟨ks, sc, on.val, at_.val, se⟩ : Dv)))), (1, some (.recs seenT (⟨ks, sc, on.val, at_.val, se⟩ : Dv).seen)), (2, some (.recs .u32 (⟨ks, sc, on.val, at_.val, se⟩ : Dv).keys))] 3 26), [], .int .u32 (.full (dInW (⟨ks, sc, on.val, at_.val, se⟩ : Dv))), [(0, .cells (dCells 2 1 (dIn (⟨ks, sc, on.val, at_.val, se⟩ : Dv)))), (1, .recs seenT (dIn (⟨ks, sc, on.val, at_.val, se⟩ : Dv)).seen), (2, .recs .u32 (dIn (⟨ks, sc, on.val, at_.val, se⟩ : Dv)).keys)], 1, rfl, rfl, ⟨rfl, rfl, rfl⟩, hnd, ⟨hq, he, hk, trivial⟩, rfl, rfl, .of (fitmIn gl sc on at_ ks se) (by simp [nilR]), rfl, (fun W R ρ0 own0 hown => noSums (by kernel_rfl)), gmIn ⟨ks, sc, on.val, at_.val, se⟩ (hv _ rfl)⟩
          · cases hr
        · cases hr
      · cases hr
    · cases hr
  · cases hr
def kmOut : List SVal → Nat → Acc ORes := fun a n => match a with
  | [.ptr q 0, .int .u32 y] => .look q fun cc => match cc with | some (.cells [.own k, .arr .u32 16 sc, .bool on, .int .i64 at_, .own e]) => (.look k fun cc => match cc with | some (.recs .u32 ks) => (.look e fun cc => match cc with | some (.recs (.flat (.int .i64) [.int .u32, .int .u32]) se) => (match nodupB [q, k, e] with | true => .ret (genR [q, k] (gone [e]) n (.tuple []) ([(0, .cells (dCells 1 2 (dOut (⟨ks, sc, on.val, at_.val, se⟩ : Dv) y.val))), (1, .recs .u32 (dOut (⟨ks, sc, on.val, at_.val, se⟩ : Dv) y.val).keys), (2, .recs seenT (dOut (⟨ks, sc, on.val, at_.val, se⟩ : Dv) y.val).seen)]) 1 (some (few (⟨ks, sc, on.val, at_.val, se⟩ : Dv).seen))) | false => .fail "mOut") | _ => .fail "mOut") | _ => .fail "mOut") | _ => .fail "mOut"
  | _ => .fail "mOut"
theorem fitmOut (gl : List (Nat × SVal)) (y : SI) (sc : List Int) (on : SB) (at_ : SI) (ks : List Int) (se : List (Int × Int × Int)) : (fits (envK gl [] 2) (S1 [.ptr 0 0, .int .u32 y] (numC 0 [.cells [.own 1, .arr .u32 16 sc, .bool on, .int .i64 at_, .own 2], .recs .u32 ks, .recs (.flat (.int .i64) [.int .u32, .int .u32]) se]) 3 15) (S1 [.ptr 0 0, .int .u32 (.full y.val)] [(0, some (.cells (dCells 1 2 (⟨ks, sc, on.val, at_.val, se⟩ : Dv)))), (1, some (.recs .u32 (⟨ks, sc, on.val, at_.val, se⟩ : Dv).keys)), (2, some (.recs seenT (⟨ks, sc, on.val, at_.val, se⟩ : Dv).seen))] 3 15)) = (
  SI.val y = SI.val y ∧ sc = sc ∧ SB.val on = SB.val on ∧ SI.val at_ = SI.val at_ ∧ ks = ks ∧ se = se) := by kernel_rfl
theorem runmOut (gl : List (Nat × SVal)) (y : Int) (d : Dv) : (Tr.sat (newQ (envK gl [] 2) (.tuple []) ([(0, .cells (dCells 1 2 (dOut d y))), (1, .recs .u32 (dOut d y).keys), (2, .recs seenT (dOut d y).seen)]) (2 + 1)) (run (envK gl [] 2) [] (bodyOf Tryd.f76) (S1 [.ptr 0 0, .int .u32 (.full y)] [(0, some (.cells (dCells 1 2 d))), (1, some (.recs .u32 d.keys)), (2, some (.recs seenT d.seen))] 3 15) (ends (envK gl [] 2) Tryd.f76.results.toList))) = (
  List.length d.seen + List.length [((1 : Int), (0 : Int), y)] ≤ (137438953472 : Nat) ∧ (List.length d.seen + List.length [((1 : Int), (0 : Int), y)] ≤ (137438953472 : Nat) → d.sec = (dOut d y).sec ∧ d.on = (dOut d y).on ∧ d.at_ = (dOut d y).at_ ∧ d.keys = (dOut d y).keys ∧ d.seen ++ [((1 : Int), (0 : Int), y)] = (dOut d y).seen)) := by kernel_rfl
set_option maxHeartbeats 4000000 in
theorem gmOut (y : Int) (d : Dv) (hv : few d.seen) : Box (Tr.sat (newQ (envK gl [] 2) (.tuple []) ([(0, .cells (dCells 1 2 (dOut d y))), (1, .recs .u32 (dOut d y).keys), (2, .recs seenT (dOut d y).seen)]) (2 + 1)) (run (envK gl [] 2) [] (bodyOf Tryd.f76) (S1 [.ptr 0 0, .int .u32 (.full y)] [(0, some (.cells (dCells 1 2 d))), (1, some (.recs .u32 d.keys)), (2, some (.recs seenT d.seen))] 3 15) (ends (envK gl [] 2) Tryd.f76.results.toList))) := by
  refine .of (runmOut gl y d) ?_
  unfold few at hv
  exact ⟨by simp only [List.length_singleton]; omega, fun _ => ⟨rfl, rfl, rfl, rfl, rfl⟩⟩
set_option maxHeartbeats 4000000 in
theorem cmOut : Con ea has gl 76 kmOut := by
  refine gen_mk Tryd.func76 15 2 (con := []) trivial (fun hA hr hv => ?_) (by kernel_rfl) (by kernel_rfl) Tryd.ntmps76
  unfold kmOut at hr; split at hr
  · rename_i q y
    simp only [Acc.run] at hr
    split at hr
    · rename_i k sc on at_ e hq
      simp only [Acc.run] at hr
      split at hr
      · rename_i ks hk
        simp only [Acc.run] at hr
        split at hr
        · rename_i se he
          split at hr
          · rename_i hnd
            have := ret_ok hr; subst this
            refine ⟨[q, k], [e], [.cells [.own 1, .arr .u32 16 sc, .bool on, .int .i64 at_, .own 2], .recs .u32 ks, .recs (.flat (.int .i64) [.int .u32, .int .u32]) se], [.ptr 0 0, .int .u32 y], (S1 [.ptr 0 0, .int .u32 (.full y.val)] [(0, some (.cells (dCells 1 2 (⟨ks, sc, on.val, at_.val, se⟩ : Dv)))), (1, some (.recs .u32 (⟨ks, sc, on.val, at_.val, se⟩ : Dv).keys)), (2, some (.recs seenT (⟨ks, sc, on.val, at_.val, se⟩ : Dv).seen))] 3 15), [], .tuple [], [(0, .cells (dCells 1 2 (dOut (⟨ks, sc, on.val, at_.val, se⟩ : Dv) y.val))), (1, .recs .u32 (dOut (⟨ks, sc, on.val, at_.val, se⟩ : Dv) y.val).keys), (2, .recs seenT (dOut (⟨ks, sc, on.val, at_.val, se⟩ : Dv) y.val).seen)], 1, rfl, rfl, ⟨rfl, rfl, rfl⟩, hnd, ⟨hq, hk, he, trivial⟩, rfl, rfl, .of (fitmOut gl y sc on at_ ks se) (by simp [nilR]), rfl, (fun W R ρ0 own0 hown => noSums (by kernel_rfl)), gmOut y.val ⟨ks, sc, on.val, at_.val, se⟩ (hv _ rfl)⟩
          · cases hr
        · cases hr
      · cases hr
    · cases hr
  · cases hr
def kmPut : List SVal → Nat → Acc ORes := fun a n => match a with
  | [.ptr q 0, .int .u32 y, .int .u32 z] => .look q fun cc => match cc with | some (.cells [.own k, .arr .u32 16 sc, .bool on, .int .i64 at_, .own e]) => (.look k fun cc => match cc with | some (.recs .u32 ks) => (.look e fun cc => match cc with | some (.recs (.flat (.int .i64) [.int .u32, .int .u32]) se) => (match nodupB [q, k, e] with | true => .ret (genR [q, k] (gone [e]) n (.tuple []) ([(0, .cells (dCells 1 2 (dPut (⟨ks, sc, on.val, at_.val, se⟩ : Dv) y.val z.val))), (1, .recs .u32 (dPut (⟨ks, sc, on.val, at_.val, se⟩ : Dv) y.val z.val).keys), (2, .recs seenT (dPut (⟨ks, sc, on.val, at_.val, se⟩ : Dv) y.val z.val).seen)]) 1 (some (few (⟨ks, sc, on.val, at_.val, se⟩ : Dv).seen))) | false => .fail "mPut") | _ => .fail "mPut") | _ => .fail "mPut") | _ => .fail "mPut"
  | _ => .fail "mPut"
theorem fitmPut (gl : List (Nat × SVal)) (y z : SI) (sc : List Int) (on : SB) (at_ : SI) (ks : List Int) (se : List (Int × Int × Int)) : (fits (envK gl [] 2) (S1 [.ptr 0 0, .int .u32 y, .int .u32 z] (numC 0 [.cells [.own 1, .arr .u32 16 sc, .bool on, .int .i64 at_, .own 2], .recs .u32 ks, .recs (.flat (.int .i64) [.int .u32, .int .u32]) se]) 3 26) (S1 [.ptr 0 0, .int .u32 (.full y.val), .int .u32 (.full z.val)] [(0, some (.cells (dCells 1 2 (⟨ks, sc, on.val, at_.val, se⟩ : Dv)))), (1, some (.recs .u32 (⟨ks, sc, on.val, at_.val, se⟩ : Dv).keys)), (2, some (.recs seenT (⟨ks, sc, on.val, at_.val, se⟩ : Dv).seen))] 3 26)) = (
  SI.val y = SI.val y ∧ SI.val z = SI.val z ∧ sc = sc ∧ SB.val on = SB.val on ∧ SI.val at_ = SI.val at_ ∧ ks = ks ∧ se = se) := by kernel_rfl
theorem runmPut (gl : List (Nat × SVal)) (y z : Int) (d : Dv) : (Tr.sat (newQ (envK gl [] 2) (.tuple []) ([(0, .cells (dCells 1 2 (dPut d y z))), (1, .recs .u32 (dPut d y z).keys), (2, .recs seenT (dPut d y z).seen)]) (2 + 1)) (run (envK gl [] 2) [] (bodyOf Tryd.f78) (S1 [.ptr 0 0, .int .u32 (.full y), .int .u32 (.full z)] [(0, some (.cells (dCells 1 2 d))), (1, some (.recs .u32 d.keys)), (2, some (.recs seenT d.seen))] 3 26) (ends (envK gl [] 2) Tryd.f78.results.toList))) = (
  ((0 : Int) ≤ y % Int.ofNat (nat_lit 15 + (1 : Nat)) ∧ y % Int.ofNat (nat_lit 15 + (1 : Nat)) < (↑(16 : Nat) : Int)) ∧ ((0 : Int) ≤ y % Int.ofNat (nat_lit 15 + (1 : Nat)) ∧ y % Int.ofNat (nat_lit 15 + (1 : Nat)) < (↑(16 : Nat) : Int) → List.length d.seen + List.length [((2 : Int), y % Int.ofNat (nat_lit 15 + (1 : Nat)), z)] ≤ (137438953472 : Nat) ∧ (List.length d.seen + List.length [((2 : Int), y % Int.ofNat (nat_lit 15 + (1 : Nat)), z)] ≤ (137438953472 : Nat) → List.set d.sec (Int.toNat (y % Int.ofNat (nat_lit 15 + (1 : Nat)))) z = (dPut d y z).sec ∧ d.on = (dPut d y z).on ∧ d.at_ = (dPut d y z).at_ ∧ d.keys = (dPut d y z).keys ∧ d.seen ++ [((2 : Int), y % Int.ofNat (nat_lit 15 + (1 : Nat)), z)] = (dPut d y z).seen))) := by kernel_rfl
set_option maxHeartbeats 4000000 in
theorem gmPut (y z : Int) (d : Dv) (hv : few d.seen) : Box (Tr.sat (newQ (envK gl [] 2) (.tuple []) ([(0, .cells (dCells 1 2 (dPut d y z))), (1, .recs .u32 (dPut d y z).keys), (2, .recs seenT (dPut d y z).seen)]) (2 + 1)) (run (envK gl [] 2) [] (bodyOf Tryd.f78) (S1 [.ptr 0 0, .int .u32 (.full y), .int .u32 (.full z)] [(0, some (.cells (dCells 1 2 d))), (1, some (.recs .u32 d.keys)), (2, some (.recs seenT d.seen))] 3 26) (ends (envK gl [] 2) Tryd.f78.results.toList))) := by
  refine .of (runmPut gl y z d) ?_
  unfold few at hv
  have o16 : Int.ofNat (15 + 1) = 16 := rfl
  rw [o16]
  exact ⟨by omega, fun _ => ⟨by simp only [List.length_singleton]; omega, fun _ => ⟨rfl, rfl, rfl, rfl, rfl⟩⟩⟩
set_option maxHeartbeats 4000000 in
theorem cmPut : Con ea has gl 78 kmPut := by
  refine gen_mk Tryd.func78 26 2 (con := []) trivial (fun hA hr hv => ?_) (by kernel_rfl) (by kernel_rfl) Tryd.ntmps78
  unfold kmPut at hr; split at hr
  · rename_i q y z
    simp only [Acc.run] at hr
    split at hr
    · rename_i k sc on at_ e hq
      simp only [Acc.run] at hr
      split at hr
      · rename_i ks hk
        simp only [Acc.run] at hr
        split at hr
        · rename_i se he
          split at hr
          · rename_i hnd
            have := ret_ok hr; subst this
            refine ⟨[q, k], [e], [.cells [.own 1, .arr .u32 16 sc, .bool on, .int .i64 at_, .own 2], .recs .u32 ks, .recs (.flat (.int .i64) [.int .u32, .int .u32]) se], [.ptr 0 0, .int .u32 y, .int .u32 z], (S1 [.ptr 0 0, .int .u32 (.full y.val), .int .u32 (.full z.val)] [(0, some (.cells (dCells 1 2 (⟨ks, sc, on.val, at_.val, se⟩ : Dv)))), (1, some (.recs .u32 (⟨ks, sc, on.val, at_.val, se⟩ : Dv).keys)), (2, some (.recs seenT (⟨ks, sc, on.val, at_.val, se⟩ : Dv).seen))] 3 26), [], .tuple [], [(0, .cells (dCells 1 2 (dPut (⟨ks, sc, on.val, at_.val, se⟩ : Dv) y.val z.val))), (1, .recs .u32 (dPut (⟨ks, sc, on.val, at_.val, se⟩ : Dv) y.val z.val).keys), (2, .recs seenT (dPut (⟨ks, sc, on.val, at_.val, se⟩ : Dv) y.val z.val).seen)], 1, rfl, rfl, ⟨rfl, rfl, rfl⟩, hnd, ⟨hq, hk, he, trivial⟩, rfl, rfl, .of (fitmPut gl y z sc on at_ ks se) (by simp [nilR]), rfl, (fun W R ρ0 own0 hown => noSums (by kernel_rfl)), gmPut y.val z.val ⟨ks, sc, on.val, at_.val, se⟩ (hv _ rfl)⟩
          · cases hr
        · cases hr
      · cases hr
    · cases hr
  · cases hr
def kmSet : List SVal → Nat → Acc ORes := fun a n => match a with
  | [.ptr q 0, .int .i64 y, .int .u32 z] => .look q fun cc => match cc with | some (.cells [.own k, .arr .u32 16 sc, .bool on, .int .i64 at_, .own e]) => (.look k fun cc => match cc with | some (.recs .u32 ks) => (.look e fun cc => match cc with | some (.recs (.flat (.int .i64) [.int .u32, .int .u32]) se) => (match nodupB [q, k, e] with | true => .ret (genR [q, k, e] (gone []) n (.tuple []) ([(0, .cells (dCells 1 2 (dSet true (⟨ks, sc, on.val, at_.val, se⟩ : Dv) y.val z.val))), (1, .recs .u32 (dSet true (⟨ks, sc, on.val, at_.val, se⟩ : Dv) y.val z.val).keys), (2, .recs seenT (dSet true (⟨ks, sc, on.val, at_.val, se⟩ : Dv) y.val z.val).seen)]) 0) | false => .fail "mSet") | _ => .fail "mSet") | _ => .fail "mSet") | _ => .fail "mSet"
  | _ => .fail "mSet"
theorem fitmSet (gl : List (Nat × SVal)) (y z : SI) (sc : List Int) (on : SB) (at_ : SI) (ks : List Int) (se : List (Int × Int × Int)) : (fits (envK gl [] 3) (S1 [.ptr 0 0, .int .i64 y, .int .u32 z] (numC 0 [.cells [.own 1, .arr .u32 16 sc, .bool on, .int .i64 at_, .own 2], .recs .u32 ks, .recs (.flat (.int .i64) [.int .u32, .int .u32]) se]) 3 25) (S1 [.ptr 0 0, .int .i64 (.full y.val), .int .u32 (.full z.val)] [(0, some (.cells (dCells 1 2 (⟨ks, sc, on.val, at_.val, se⟩ : Dv)))), (1, some (.recs .u32 (⟨ks, sc, on.val, at_.val, se⟩ : Dv).keys)), (2, some (.recs seenT (⟨ks, sc, on.val, at_.val, se⟩ : Dv).seen))] 3 25)) = (
  SI.val y = SI.val y ∧ SI.val z = SI.val z ∧ sc = sc ∧ SB.val on = SB.val on ∧ SI.val at_ = SI.val at_ ∧ ks = ks ∧ se = se) := by kernel_rfl
theorem runmSet (gl : List (Nat × SVal)) (y z : Int) (d : Dv) : (Tr.sat (newQ (envK gl [] 3) (.tuple []) ([(0, .cells (dCells 1 2 (dSet true d y z))), (1, .recs .u32 (dSet true d y z).keys), (2, .recs seenT (dSet true d y z).seen)]) (3 + 0)) (run (envK gl [] 3) [] (bodyOf Tryd.f80) (S1 [.ptr 0 0, .int .i64 (.full y), .int .u32 (.full z)] [(0, some (.cells (dCells 1 2 d))), (1, some (.recs .u32 d.keys)), (2, some (.recs seenT d.seen))] 3 25) (ends (envK gl [] 3) Tryd.f80.results.toList))) = (
  (decide ((0 : Int) < z) = true → d.sec = (dSet true d y z).sec ∧ decide ((0 : Int) < z) = (dSet true d y z).on ∧ IntKind.wrap IntKind.i64 (y + z) = (dSet true d y z).at_ ∧ d.keys = (dSet true d y z).keys ∧ d.seen = (dSet true d y z).seen) ∧ (decide ((0 : Int) < z) = false → d.sec = (dSet true d y z).sec ∧ decide ((0 : Int) < z) = (dSet true d y z).on ∧ (0 : Int) = (dSet true d y z).at_ ∧ d.keys = (dSet true d y z).keys ∧ d.seen = (dSet true d y z).seen)) := by kernel_rfl
set_option maxHeartbeats 4000000 in
theorem gmSet (y z : Int) (d : Dv)  : Box (Tr.sat (newQ (envK gl [] 3) (.tuple []) ([(0, .cells (dCells 1 2 (dSet true d y z))), (1, .recs .u32 (dSet true d y z).keys), (2, .recs seenT (dSet true d y z).seen)]) (3 + 0)) (run (envK gl [] 3) [] (bodyOf Tryd.f80) (S1 [.ptr 0 0, .int .i64 (.full y), .int .u32 (.full z)] [(0, some (.cells (dCells 1 2 d))), (1, some (.recs .u32 d.keys)), (2, some (.recs seenT d.seen))] 3 25) (ends (envK gl [] 3) Tryd.f80.results.toList))) := by
  refine .of (runmSet gl y z d) ?_
  unfold dSet
  refine ⟨fun h => ?_, fun h => ?_⟩
  · have h := of_decide_eq_true h
    simp [h]
  · have h := of_decide_eq_false h
    simp [h]
set_option maxHeartbeats 4000000 in
theorem cmSet : Con ea has gl 80 kmSet := by
  refine gen_mk Tryd.func80 25 3 (con := []) trivial (fun hA hr hv => ?_) (by kernel_rfl) (by kernel_rfl) Tryd.ntmps80
  unfold kmSet at hr; split at hr
  · rename_i q y z
    simp only [Acc.run] at hr
    split at hr
    · rename_i k sc on at_ e hq
      simp only [Acc.run] at hr
      split at hr
      · rename_i ks hk
        simp only [Acc.run] at hr
        split at hr
        · rename_i se he
          split at hr
          · rename_i hnd
            have := ret_ok hr; subst this
            refine ⟨[q, k, e], [], [.cells [.own 1, .arr .u32 16 sc, .bool on, .int .i64 at_, .own 2], .recs .u32 ks, .recs (.flat (.int .i64) [.int .u32, .int .u32]) se], [.ptr 0 0, .int .i64 y, .int .u32 z], (S1 [.ptr 0 0, .int .i64 (.full y.val), .int .u32 (.full z.val)] [(0, some (.cells (dCells 1 2 (⟨ks, sc, on.val, at_.val, se⟩ : Dv)))), (1, some (.recs .u32 (⟨ks, sc, on.val, at_.val, se⟩ : Dv).keys)), (2, some (.recs seenT (⟨ks, sc, on.val, at_.val, se⟩ : Dv).seen))] 3 25), [], .tuple [], [(0, .cells (dCells 1 2 (dSet true (⟨ks, sc, on.val, at_.val, se⟩ : Dv) y.val z.val))), (1, .recs .u32 (dSet true (⟨ks, sc, on.val, at_.val, se⟩ : Dv) y.val z.val).keys), (2, .recs seenT (dSet true (⟨ks, sc, on.val, at_.val, se⟩ : Dv) y.val z.val).seen)], 0, rfl, rfl, ⟨rfl, rfl, rfl⟩, hnd, ⟨hq, hk, he, trivial⟩, rfl, rfl, .of (fitmSet gl y z sc on at_ ks se) (by simp [nilR]), rfl, (fun W R ρ0 own0 hown => noSums (by kernel_rfl)), gmSet y.val z.val ⟨ks, sc, on.val, at_.val, se⟩⟩
          · cases hr
        · cases hr
      · cases hr
    · cases hr
  · cases hr
def kmRang : List SVal → Nat → Acc ORes := fun a n => match a with
  | [.ptr q 0] => .look q fun cc => match cc with | some (.cells [.own k, .arr .u32 16 sc, .bool on, .int .i64 at_, .own e]) => (.look k fun cc => match cc with | some (.recs .u32 ks) => (.look e fun cc => match cc with | some (.recs (.flat (.int .i64) [.int .u32, .int .u32]) se) => (match nodupB [q, k, e] with | true => .ret (genR [q, k, e] (gone []) n (.tuple []) ([(0, .cells (dCells 1 2 (dRang true (⟨ks, sc, on.val, at_.val, se⟩ : Dv)))), (1, .recs .u32 (dRang true (⟨ks, sc, on.val, at_.val, se⟩ : Dv)).keys), (2, .recs seenT (dRang true (⟨ks, sc, on.val, at_.val, se⟩ : Dv)).seen)]) 0) | false => .fail "mRang") | _ => .fail "mRang") | _ => .fail "mRang") | _ => .fail "mRang"
  | _ => .fail "mRang"
theorem fitmRang (gl : List (Nat × SVal)) (sc : List Int) (on : SB) (at_ : SI) (ks : List Int) (se : List (Int × Int × Int)) : (fits (envK gl [] 3) (S1 [.ptr 0 0] (numC 0 [.cells [.own 1, .arr .u32 16 sc, .bool on, .int .i64 at_, .own 2], .recs .u32 ks, .recs (.flat (.int .i64) [.int .u32, .int .u32]) se]) 3 8) (S1 [.ptr 0 0] [(0, some (.cells (dCells 1 2 (⟨ks, sc, on.val, at_.val, se⟩ : Dv)))), (1, some (.recs .u32 (⟨ks, sc, on.val, at_.val, se⟩ : Dv).keys)), (2, some (.recs seenT (⟨ks, sc, on.val, at_.val, se⟩ : Dv).seen))] 3 8)) = (
  sc = sc ∧ SB.val on = SB.val on ∧ SI.val at_ = SI.val at_ ∧ ks = ks ∧ se = se) := by kernel_rfl
theorem runmRang (gl : List (Nat × SVal)) (d : Dv) : (Tr.sat (newQ (envK gl [] 3) (.tuple []) ([(0, .cells (dCells 1 2 (dRang true d))), (1, .recs .u32 (dRang true d).keys), (2, .recs seenT (dRang true d).seen)]) (3 + 0)) (run (envK gl [] 3) [] (bodyOf Tryd.f36) (S1 [.ptr 0 0] [(0, some (.cells (dCells 1 2 d))), (1, some (.recs .u32 d.keys)), (2, some (.recs seenT d.seen))] 3 8) (ends (envK gl [] 3) Tryd.f36.results.toList))) = (
  d.sec = (dRang true d).sec ∧ false = (dRang true d).on ∧ (0 : Int) = (dRang true d).at_ ∧ d.keys = (dRang true d).keys ∧ d.seen = (dRang true d).seen) := by kernel_rfl
set_option maxHeartbeats 4000000 in
theorem gmRang (d : Dv)  : Box (Tr.sat (newQ (envK gl [] 3) (.tuple []) ([(0, .cells (dCells 1 2 (dRang true d))), (1, .recs .u32 (dRang true d).keys), (2, .recs seenT (dRang true d).seen)]) (3 + 0)) (run (envK gl [] 3) [] (bodyOf Tryd.f36) (S1 [.ptr 0 0] [(0, some (.cells (dCells 1 2 d))), (1, some (.recs .u32 d.keys)), (2, some (.recs seenT d.seen))] 3 8) (ends (envK gl [] 3) Tryd.f36.results.toList))) := by
  refine .of (runmRang gl d) ?_
  exact ⟨rfl, rfl, rfl, rfl, rfl⟩
set_option maxHeartbeats 4000000 in
theorem cmRang : Con ea has gl 36 kmRang := by
  refine gen_mk Tryd.func36 8 3 (con := []) trivial (fun hA hr hv => ?_) (by kernel_rfl) (by kernel_rfl) Tryd.ntmps36
  unfold kmRang at hr; split at hr
  · rename_i q
    simp only [Acc.run] at hr
    split at hr
    · rename_i k sc on at_ e hq
      simp only [Acc.run] at hr
      split at hr
      · rename_i ks hk
        simp only [Acc.run] at hr
        split at hr
        · rename_i se he
          split at hr
          · rename_i hnd
            have := ret_ok hr; subst this
            refine ⟨[q, k, e], [], [.cells [.own 1, .arr .u32 16 sc, .bool on, .int .i64 at_, .own 2], .recs .u32 ks, .recs (.flat (.int .i64) [.int .u32, .int .u32]) se], [.ptr 0 0], (S1 [.ptr 0 0] [(0, some (.cells (dCells 1 2 (⟨ks, sc, on.val, at_.val, se⟩ : Dv)))), (1, some (.recs .u32 (⟨ks, sc, on.val, at_.val, se⟩ : Dv).keys)), (2, some (.recs seenT (⟨ks, sc, on.val, at_.val, se⟩ : Dv).seen))] 3 8), [], .tuple [], [(0, .cells (dCells 1 2 (dRang true (⟨ks, sc, on.val, at_.val, se⟩ : Dv)))), (1, .recs .u32 (dRang true (⟨ks, sc, on.val, at_.val, se⟩ : Dv)).keys), (2, .recs seenT (dRang true (⟨ks, sc, on.val, at_.val, se⟩ : Dv)).seen)], 0, rfl, rfl, ⟨rfl, rfl, rfl⟩, hnd, ⟨hq, hk, he, trivial⟩, rfl, rfl, .of (fitmRang gl sc on at_ ks se) (by simp [nilR]), rfl, (fun W R ρ0 own0 hown => noSums (by kernel_rfl)), gmRang ⟨ks, sc, on.val, at_.val, se⟩⟩
          · cases hr
        · cases hr
      · cases hr
    · cases hr
  · cases hr
def kmEnd : List SVal → Nat → Acc ORes := fun a n => match a with
  | [.ptr q 0, .int .i64 y, .int .u32 z] => .look q fun cc => match cc with | some (.cells [.own k, .arr .u32 16 sc, .bool on, .int .i64 at_, .own e]) => (.look k fun cc => match cc with | some (.recs .u32 ks) => (.look e fun cc => match cc with | some (.recs (.flat (.int .i64) [.int .u32, .int .u32]) se) => (match nodupB [q, k, e] with | true => .ret (genR [q, k] (gone [e]) n (.tuple []) ([(0, .cells (dCells 1 2 (dEnd (⟨ks, sc, on.val, at_.val, se⟩ : Dv) y.val z.val))), (1, .recs .u32 (dEnd (⟨ks, sc, on.val, at_.val, se⟩ : Dv) y.val z.val).keys), (2, .recs seenT (dEnd (⟨ks, sc, on.val, at_.val, se⟩ : Dv) y.val z.val).seen)]) 1 (some (few (⟨ks, sc, on.val, at_.val, se⟩ : Dv).seen))) | false => .fail "mEnd") | _ => .fail "mEnd") | _ => .fail "mEnd") | _ => .fail "mEnd"
  | _ => .fail "mEnd"
theorem fitmEnd (gl : List (Nat × SVal)) (y z : SI) (sc : List Int) (on : SB) (at_ : SI) (ks : List Int) (se : List (Int × Int × Int)) : (fits (envK gl [] 2) (S1 [.ptr 0 0, .int .i64 y, .int .u32 z] (numC 0 [.cells [.own 1, .arr .u32 16 sc, .bool on, .int .i64 at_, .own 2], .recs .u32 ks, .recs (.flat (.int .i64) [.int .u32, .int .u32]) se]) 3 35) (S1 [.ptr 0 0, .int .i64 (.full y.val), .int .u32 (.full z.val)] [(0, some (.cells (dCells 1 2 (⟨ks, sc, on.val, at_.val, se⟩ : Dv)))), (1, some (.recs .u32 (⟨ks, sc, on.val, at_.val, se⟩ : Dv).keys)), (2, some (.recs seenT (⟨ks, sc, on.val, at_.val, se⟩ : Dv).seen))] 3 35)) = (
  SI.val y = SI.val y ∧ SI.val z = SI.val z ∧ sc = sc ∧ SB.val on = SB.val on ∧ SI.val at_ = SI.val at_ ∧ ks = ks ∧ se = se) := by kernel_rfl
theorem runmEnd (gl : List (Nat × SVal)) (y z : Int) (d : Dv) : (Tr.sat (newQ (envK gl [] 2) (.tuple []) ([(0, .cells (dCells 1 2 (dEnd d y z))), (1, .recs .u32 (dEnd d y z).keys), (2, .recs seenT (dEnd d y z).seen)]) (2 + 1)) (run (envK gl [] 2) [] (bodyOf Tryd.f49) (S1 [.ptr 0 0, .int .i64 (.full y), .int .u32 (.full z)] [(0, some (.cells (dCells 1 2 d))), (1, some (.recs .u32 d.keys)), (2, some (.recs seenT d.seen))] 3 35) (ends (envK gl [] 2) Tryd.f49.results.toList))) = (
  (decide (y = (3 : Int)) = true → List.length d.seen + List.length [(y, (0 : Int), z)] ≤ (137438953472 : Nat) ∧ (List.length d.seen + List.length [(y, (0 : Int), z)] ≤ (137438953472 : Nat) → d.sec = (dEnd d y z).sec ∧ d.on = (dEnd d y z).on ∧ d.at_ = (dEnd d y z).at_ ∧ d.keys = (dEnd d y z).keys ∧ d.seen ++ [(y, (0 : Int), z)] = (dEnd d y z).seen)) ∧ (decide (y = (3 : Int)) = false → (decide (y = (4 : Int)) = true → List.length d.seen + List.length [(y, z, (0 : Int))] ≤ (137438953472 : Nat) ∧ (List.length d.seen + List.length [(y, z, (0 : Int))] ≤ (137438953472 : Nat) → d.sec = (dEnd d y z).sec ∧ d.on = (dEnd d y z).on ∧ d.at_ = (dEnd d y z).at_ ∧ d.keys = (dEnd d y z).keys ∧ d.seen ++ [(y, z, (0 : Int))] = (dEnd d y z).seen)) ∧ (decide (y = (4 : Int)) = false → d.sec = (dEnd d y z).sec ∧ d.on = (dEnd d y z).on ∧ d.at_ = (dEnd d y z).at_ ∧ d.keys = (dEnd d y z).keys ∧ d.seen = (dEnd d y z).seen))) := by kernel_rfl
set_option maxHeartbeats 4000000 in
theorem gmEnd (y z : Int) (d : Dv) (hv : few d.seen) : Box (Tr.sat (newQ (envK gl [] 2) (.tuple []) ([(0, .cells (dCells 1 2 (dEnd d y z))), (1, .recs .u32 (dEnd d y z).keys), (2, .recs seenT (dEnd d y z).seen)]) (2 + 1)) (run (envK gl [] 2) [] (bodyOf Tryd.f49) (S1 [.ptr 0 0, .int .i64 (.full y), .int .u32 (.full z)] [(0, some (.cells (dCells 1 2 d))), (1, some (.recs .u32 d.keys)), (2, some (.recs seenT d.seen))] 3 35) (ends (envK gl [] 2) Tryd.f49.results.toList))) := by
  refine .of (runmEnd gl y z d) ?_
  unfold few at hv
  unfold dEnd
  refine ⟨fun h => ?_, fun h => ⟨fun h2 => ?_, fun h2 => ?_⟩⟩
  · have h := of_decide_eq_true h
    subst h
    exact ⟨by simp only [List.length_singleton]; omega, fun _ => by simp⟩
  · have h2 := of_decide_eq_true h2
    subst h2
    exact ⟨by simp only [List.length_singleton]; omega, fun _ => by simp⟩
  · have h := of_decide_eq_false h
    have h2 := of_decide_eq_false h2
    simp [h, h2]
set_option maxHeartbeats 4000000 in
theorem cmEnd : Con ea has gl 49 kmEnd := by
  refine gen_mk Tryd.func49 35 2 (con := []) trivial (fun hA hr hv => ?_) (by kernel_rfl) (by kernel_rfl) Tryd.ntmps49
  unfold kmEnd at hr; split at hr
  · rename_i q y z
    simp only [Acc.run] at hr
    split at hr
    · rename_i k sc on at_ e hq
      simp only [Acc.run] at hr
      split at hr
      · rename_i ks hk
        simp only [Acc.run] at hr
        split at hr
        · rename_i se he
          split at hr
          · rename_i hnd
            have := ret_ok hr; subst this
            refine ⟨[q, k], [e], [.cells [.own 1, .arr .u32 16 sc, .bool on, .int .i64 at_, .own 2], .recs .u32 ks, .recs (.flat (.int .i64) [.int .u32, .int .u32]) se], [.ptr 0 0, .int .i64 y, .int .u32 z], (S1 [.ptr 0 0, .int .i64 (.full y.val), .int .u32 (.full z.val)] [(0, some (.cells (dCells 1 2 (⟨ks, sc, on.val, at_.val, se⟩ : Dv)))), (1, some (.recs .u32 (⟨ks, sc, on.val, at_.val, se⟩ : Dv).keys)), (2, some (.recs seenT (⟨ks, sc, on.val, at_.val, se⟩ : Dv).seen))] 3 35), [], .tuple [], [(0, .cells (dCells 1 2 (dEnd (⟨ks, sc, on.val, at_.val, se⟩ : Dv) y.val z.val))), (1, .recs .u32 (dEnd (⟨ks, sc, on.val, at_.val, se⟩ : Dv) y.val z.val).keys), (2, .recs seenT (dEnd (⟨ks, sc, on.val, at_.val, se⟩ : Dv) y.val z.val).seen)], 1, rfl, rfl, ⟨rfl, rfl, rfl⟩, hnd, ⟨hq, hk, he, trivial⟩, rfl, rfl, .of (fitmEnd gl y z sc on at_ ks se) (by simp [nilR]), rfl, (fun W R ρ0 own0 hown => noSums (by kernel_rfl)), gmEnd y.val z.val ⟨ks, sc, on.val, at_.val, se⟩ (hv _ rfl)⟩
          · cases hr
        · cases hr
      · cases hr
    · cases hr
  · cases hr
def kmGet0 : List SVal → Nat → Acc ORes := fun a n => match a with | [.rop [.ro .u32 ks, .arr .u32 16 sc, .bool on, .int .i64 at_, .ro (.flat (.int .i64) [.int .u32, .int .u32]) se], .int .u32 y] => .ret ({ v := .int .u32 (.full (dGet (⟨ks, sc, on.val, at_.val, se⟩ : Dv) y.val)) }) | _ => .fail "mGet0"
theorem argmGet0 (ks : List Int) (sc : List Int) (on : SB) (at_ : SI) (se : List (Int × Int × Int)) (y : SI) : (all (subL tAtN none' [] deep [.rop [.ro .u32 ks, .arr .u32 16 sc, .bool on, .int .i64 at_, .ro (.flat (.int .i64) [.int .u32, .int .u32]) se], .int .u32 y] [.rop [.ro .u32 (⟨ks, sc, on.val, at_.val, se⟩ : Dv).keys, .arr .u32 16 (⟨ks, sc, on.val, at_.val, se⟩ : Dv).sec, .bool (.sym (⟨ks, sc, on.val, at_.val, se⟩ : Dv).on), .int .i64 (.full (⟨ks, sc, on.val, at_.val, se⟩ : Dv).at_), .ro seenT (⟨ks, sc, on.val, at_.val, se⟩ : Dv).seen], .int .u32 (.full y.val)])) = (
  ks = ks ∧ sc = sc ∧ SB.val on = SB.val on ∧ SI.val at_ = SI.val at_ ∧ se = se ∧ SI.val y = SI.val y) := by kernel_rfl
theorem runmGet0 (gl : List (Nat × SVal)) (d : Dv) (y : Int) : (Tr.sat (plainQ (.int .u32 (.full (dGet d y)))) (run (env gl []) [] (bodyOf Tryd.f79) (start [.rop [.ro .u32 d.keys, .arr .u32 16 d.sec, .bool (.sym d.on), .int .i64 (.full d.at_), .ro seenT d.seen], .int .u32 (.full y)] 12) (ends (env gl []) Tryd.f79.results.toList))) = (
  ((0 : Int) ≤ y % Int.ofNat (nat_lit 15 + (1 : Nat)) ∧ y % Int.ofNat (nat_lit 15 + (1 : Nat)) < (↑(16 : Nat) : Int)) ∧ ((0 : Int) ≤ y % Int.ofNat (nat_lit 15 + (1 : Nat)) ∧ y % Int.ofNat (nat_lit 15 + (1 : Nat)) < (↑(16 : Nat) : Int) → List.getD d.sec (Int.toNat (y % Int.ofNat (nat_lit 15 + (1 : Nat)))) (RT.dflt RT.u32) = dGet d y)) := by kernel_rfl
set_option maxHeartbeats 4000000 in
theorem gmGet0 (d : Dv) (y : Int)  : Box (Tr.sat (plainQ (.int .u32 (.full (dGet d y)))) (run (env gl []) [] (bodyOf Tryd.f79) (start [.rop [.ro .u32 d.keys, .arr .u32 16 d.sec, .bool (.sym d.on), .int .i64 (.full d.at_), .ro seenT d.seen], .int .u32 (.full y)] 12) (ends (env gl []) Tryd.f79.results.toList))) := by
  refine .of (runmGet0 gl d y) ?_
  have o16 : Int.ofNat (15 + 1) = 16 := rfl
  rw [o16]
  exact ⟨by omega, fun _ => rfl⟩
set_option maxHeartbeats 4000000 in
theorem cmGet0 : Con ea has gl 79 kmGet0 := by
  refine plain_mkB Tryd.func79 12 (con := []) trivial (fun hA hr hv => ?_) (by kernel_rfl) (by kernel_rfl) Tryd.ntmps79
  unfold kmGet0 at hr; split at hr
  · rename_i ks sc on at_ se y
    have := ret_ok hr; subst this
    exact ⟨_, [], rfl, rfl, .of (argmGet0 ks sc on at_ se y) (by simp), rfl, (fun W R ρ0 own0 hown => noSums (by kernel_rfl)), gmGet0 ⟨ks, sc, on.val, at_.val, se⟩ y.val ⟩
  · cases hr
abbrev kmGet := bor [.box [.ro .u32, .any, .any, .any, .ro seenT], .any] kmGet0
theorem cmGet : Con ea has gl 79 kmGet := bor_ok cmGet0 _
def kmDue0 : List SVal → Nat → Acc ORes := fun a n => match a with | [.rop [.ro .u32 ks, .arr .u32 16 sc, .bool on, .int .i64 at_, .ro (.flat (.int .i64) [.int .u32, .int .u32]) se], .int .i64 y] => .ret ({ v := .bool (.sym (dDue (⟨ks, sc, on.val, at_.val, se⟩ : Dv) y.val)) }) | _ => .fail "mDue0"
theorem argmDue0 (ks : List Int) (sc : List Int) (on : SB) (at_ : SI) (se : List (Int × Int × Int)) (y : SI) : (all (subL tAtN none' [] deep [.rop [.ro .u32 ks, .arr .u32 16 sc, .bool on, .int .i64 at_, .ro (.flat (.int .i64) [.int .u32, .int .u32]) se], .int .i64 y] [.rop [.ro .u32 (⟨ks, sc, on.val, at_.val, se⟩ : Dv).keys, .arr .u32 16 (⟨ks, sc, on.val, at_.val, se⟩ : Dv).sec, .bool (.sym (⟨ks, sc, on.val, at_.val, se⟩ : Dv).on), .int .i64 (.full (⟨ks, sc, on.val, at_.val, se⟩ : Dv).at_), .ro seenT (⟨ks, sc, on.val, at_.val, se⟩ : Dv).seen], .int .i64 (.full y.val)])) = (
  ks = ks ∧ sc = sc ∧ SB.val on = SB.val on ∧ SI.val at_ = SI.val at_ ∧ se = se ∧ SI.val y = SI.val y) := by kernel_rfl
theorem runmDue0 (gl : List (Nat × SVal)) (d : Dv) (y : Int) : (Tr.sat (plainQ (.bool (.sym (dDue d y)))) (run (env gl []) [] (bodyOf Tryd.f46) (start [.rop [.ro .u32 d.keys, .arr .u32 16 d.sec, .bool (.sym d.on), .int .i64 (.full d.at_), .ro seenT d.seen], .int .i64 (.full y)] 17) (ends (env gl []) Tryd.f46.results.toList))) = (
  (d.on && decide (d.at_ ≤ y)) = dDue d y) := by kernel_rfl
set_option maxHeartbeats 4000000 in
theorem gmDue0 (d : Dv) (y : Int)  : Box (Tr.sat (plainQ (.bool (.sym (dDue d y)))) (run (env gl []) [] (bodyOf Tryd.f46) (start [.rop [.ro .u32 d.keys, .arr .u32 16 d.sec, .bool (.sym d.on), .int .i64 (.full d.at_), .ro seenT d.seen], .int .i64 (.full y)] 17) (ends (env gl []) Tryd.f46.results.toList))) := by
  refine .of (runmDue0 gl d y) ?_
  rfl
set_option maxHeartbeats 4000000 in
theorem cmDue0 : Con ea has gl 46 kmDue0 := by
  refine plain_mkB Tryd.func46 17 (con := []) trivial (fun hA hr hv => ?_) (by kernel_rfl) (by kernel_rfl) Tryd.ntmps46
  unfold kmDue0 at hr; split at hr
  · rename_i ks sc on at_ se y
    have := ret_ok hr; subst this
    exact ⟨_, [], rfl, rfl, .of (argmDue0 ks sc on at_ se y) (by simp), rfl, (fun W R ρ0 own0 hown => noSums (by kernel_rfl)), gmDue0 ⟨ks, sc, on.val, at_.val, se⟩ y.val ⟩
  · cases hr
abbrev kmDue := bor [.box [.ro .u32, .any, .any, .any, .ro seenT], .any] kmDue0
theorem cmDue : Con ea has gl 46 kmDue := bor_ok cmDue0 _
def kmKeys0 : List SVal → Nat → Acc ORes := fun a n => match a with | [.rop [.ro .u32 ks, .arr .u32 16 sc, .bool on, .int .i64 at_, .ro (.flat (.int .i64) [.int .u32, .int .u32]) se]] => .ret ({ v := .int .i64 (.full (⟨ks, sc, on.val, at_.val, se⟩ : Dv).keys.length) }) | _ => .fail "mKeys0"
theorem argmKeys0 (ks : List Int) (sc : List Int) (on : SB) (at_ : SI) (se : List (Int × Int × Int)) : (all (subL tAtN none' [] deep [.rop [.ro .u32 ks, .arr .u32 16 sc, .bool on, .int .i64 at_, .ro (.flat (.int .i64) [.int .u32, .int .u32]) se]] [.rop [.ro .u32 (⟨ks, sc, on.val, at_.val, se⟩ : Dv).keys, .arr .u32 16 (⟨ks, sc, on.val, at_.val, se⟩ : Dv).sec, .bool (.sym (⟨ks, sc, on.val, at_.val, se⟩ : Dv).on), .int .i64 (.full (⟨ks, sc, on.val, at_.val, se⟩ : Dv).at_), .ro seenT (⟨ks, sc, on.val, at_.val, se⟩ : Dv).seen]])) = (
  ks = ks ∧ sc = sc ∧ SB.val on = SB.val on ∧ SI.val at_ = SI.val at_ ∧ se = se) := by kernel_rfl
theorem runmKeys0 (gl : List (Nat × SVal)) (d : Dv) : (Tr.sat (plainQ (.int .i64 (.full d.keys.length))) (run (env gl []) [] (bodyOf Tryd.f47) (start [.rop [.ro .u32 d.keys, .arr .u32 16 d.sec, .bool (.sym d.on), .int .i64 (.full d.at_), .ro seenT d.seen]] 8) (ends (env gl []) Tryd.f47.results.toList))) = (
  (↑(List.length d.keys) : Int) = (↑(List.length d.keys) : Int)) := by kernel_rfl
set_option maxHeartbeats 4000000 in
theorem gmKeys0 (d : Dv)  : Box (Tr.sat (plainQ (.int .i64 (.full d.keys.length))) (run (env gl []) [] (bodyOf Tryd.f47) (start [.rop [.ro .u32 d.keys, .arr .u32 16 d.sec, .bool (.sym d.on), .int .i64 (.full d.at_), .ro seenT d.seen]] 8) (ends (env gl []) Tryd.f47.results.toList))) := by
  refine .of (runmKeys0 gl d) ?_
  rfl
set_option maxHeartbeats 4000000 in
theorem cmKeys0 : Con ea has gl 47 kmKeys0 := by
  refine plain_mkB Tryd.func47 8 (con := []) trivial (fun hA hr hv => ?_) (by kernel_rfl) (by kernel_rfl) Tryd.ntmps47
  unfold kmKeys0 at hr; split at hr
  · rename_i ks sc on at_ se
    have := ret_ok hr; subst this
    exact ⟨_, [], rfl, rfl, .of (argmKeys0 ks sc on at_ se) (by simp), rfl, (fun W R ρ0 own0 hown => noSums (by kernel_rfl)), gmKeys0 ⟨ks, sc, on.val, at_.val, se⟩ ⟩
  · cases hr
abbrev kmKeys := bor [.box [.ro .u32, .any, .any, .any, .ro seenT]] kmKeys0
theorem cmKeys : Con ea has gl 47 kmKeys := bor_ok cmKeys0 _
def kmSeen0 : List SVal → Nat → Acc ORes := fun a n => match a with | [.rop [.ro .u32 ks, .arr .u32 16 sc, .bool on, .int .i64 at_, .ro (.flat (.int .i64) [.int .u32, .int .u32]) se]] => .ret (newR n (.own 0) ([(0, .recs seenT (⟨ks, sc, on.val, at_.val, se⟩ : Dv).seen)]) 1 (some (few (⟨ks, sc, on.val, at_.val, se⟩ : Dv).seen))) | _ => .fail "mSeen0"
theorem argmSeen0 (ks : List Int) (sc : List Int) (on : SB) (at_ : SI) (se : List (Int × Int × Int)) : (all (subL tAtN none' [] deep [.rop [.ro .u32 ks, .arr .u32 16 sc, .bool on, .int .i64 at_, .ro (.flat (.int .i64) [.int .u32, .int .u32]) se]] [.rop [.ro .u32 (⟨ks, sc, on.val, at_.val, se⟩ : Dv).keys, .arr .u32 16 (⟨ks, sc, on.val, at_.val, se⟩ : Dv).sec, .bool (.sym (⟨ks, sc, on.val, at_.val, se⟩ : Dv).on), .int .i64 (.full (⟨ks, sc, on.val, at_.val, se⟩ : Dv).at_), .ro seenT (⟨ks, sc, on.val, at_.val, se⟩ : Dv).seen]])) = (
  ks = ks ∧ sc = sc ∧ SB.val on = SB.val on ∧ SI.val at_ = SI.val at_ ∧ se = se) := by kernel_rfl
theorem runmSeen0 (gl : List (Nat × SVal)) (d : Dv) : (Tr.sat (newQ (env gl [(57, kCloneSn)]) (.own 0) ([(0, .recs seenT d.seen)]) 1) (run (env gl [(57, kCloneSn)]) [] (bodyOf Tryd.f40) (start [.rop [.ro .u32 d.keys, .arr .u32 16 d.sec, .bool (.sym d.on), .int .i64 (.full d.at_), .ro seenT d.seen]] 8) (ends (env gl [(57, kCloneSn)]) Tryd.f40.results.toList))) = (
  List.length d.seen ≤ (137438953472 : Nat) ∧ (List.length d.seen ≤ (137438953472 : Nat) → d.seen = d.seen)) := by kernel_rfl
set_option maxHeartbeats 4000000 in
theorem gmSeen0 (d : Dv)  (hv : few d.seen) : Box (Tr.sat (newQ (env gl [(57, kCloneSn)]) (.own 0) ([(0, .recs seenT d.seen)]) 1) (run (env gl [(57, kCloneSn)]) [] (bodyOf Tryd.f40) (start [.rop [.ro .u32 d.keys, .arr .u32 16 d.sec, .bool (.sym d.on), .int .i64 (.full d.at_), .ro seenT d.seen]] 8) (ends (env gl [(57, kCloneSn)]) Tryd.f40.results.toList))) := by
  refine .of (runmSeen0 gl d) ?_
  unfold few at hv; exact ⟨by omega, fun _ => rfl⟩
set_option maxHeartbeats 4000000 in
theorem cmSeen0 : Con ea has gl 40 kmSeen0 := by
  refine new_mkB Tryd.func40 8 (con := [(57, kCloneSn)]) ⟨cCloneSn, trivial⟩ (fun hA hr hv => ?_) (by kernel_rfl) (by kernel_rfl) Tryd.ntmps40
  unfold kmSeen0 at hr; split at hr
  · rename_i ks sc on at_ se
    have := ret_ok hr; subst this
    replace hv := hv _ rfl
    exact ⟨_, [], _, _, _, ⟨rfl, rfl, rfl⟩, .of (argmSeen0 ks sc on at_ se) (by simp), rfl, rfl, (fun W R ρ0 own0 hown => noSums (by kernel_rfl)), gmSeen0 ⟨ks, sc, on.val, at_.val, se⟩  hv⟩
  · cases hr
abbrev kmSeen := borN [.box [.ro .u32, .any, .any, .any, .ro seenT]] kmSeen0
theorem cmSeen : Con ea has gl 40 kmSeen := borN_ok cmSeen0 _
def kdClone0 : List SVal → Nat → Acc ORes := fun a n => match a with | [.rop [.ro .u32 ks, .arr .u32 16 sc, .bool on, .int .i64 at_, .ro (.flat (.int .i64) [.int .u32, .int .u32]) se]] => .ret (newR n (.ptr 0 0) ([(0, .cells (dCells 1 2 (⟨ks, sc, on.val, at_.val, se⟩ : Dv))), (1, .recs .u32 (⟨ks, sc, on.val, at_.val, se⟩ : Dv).keys), (2, .recs seenT (⟨ks, sc, on.val, at_.val, se⟩ : Dv).seen)]) 3 (some (few (⟨ks, sc, on.val, at_.val, se⟩ : Dv).keys ∧ few (⟨ks, sc, on.val, at_.val, se⟩ : Dv).seen))) | _ => .fail "dClone0"
theorem argdClone0 (ks : List Int) (sc : List Int) (on : SB) (at_ : SI) (se : List (Int × Int × Int)) : (all (subL tAtN none' [] deep [.rop [.ro .u32 ks, .arr .u32 16 sc, .bool on, .int .i64 at_, .ro (.flat (.int .i64) [.int .u32, .int .u32]) se]] [.rop [.ro .u32 (⟨ks, sc, on.val, at_.val, se⟩ : Dv).keys, .arr .u32 16 (⟨ks, sc, on.val, at_.val, se⟩ : Dv).sec, .bool (.sym (⟨ks, sc, on.val, at_.val, se⟩ : Dv).on), .int .i64 (.full (⟨ks, sc, on.val, at_.val, se⟩ : Dv).at_), .ro seenT (⟨ks, sc, on.val, at_.val, se⟩ : Dv).seen]])) = (
  ks = ks ∧ sc = sc ∧ SB.val on = SB.val on ∧ SI.val at_ = SI.val at_ ∧ se = se) := by kernel_rfl
theorem rundClone0 (gl : List (Nat × SVal)) (d : Dv) : (Tr.sat (newQ (env gl [(45, kCloneW), (57, kCloneSn)]) (.ptr 0 0) ([(0, .cells (dCells 1 2 d)), (1, .recs .u32 d.keys), (2, .recs seenT d.seen)]) 3) (run (env gl [(45, kCloneW), (57, kCloneSn)]) [] (bodyOf Tryd.f42) (start [.rop [.ro .u32 d.keys, .arr .u32 16 d.sec, .bool (.sym d.on), .int .i64 (.full d.at_), .ro seenT d.seen]] 19) (ends (env gl [(45, kCloneW), (57, kCloneSn)]) Tryd.f42.results.toList))) = (
  List.length d.keys ≤ (137438953472 : Nat) ∧ (List.length d.keys ≤ (137438953472 : Nat) → List.length d.seen ≤ (137438953472 : Nat) ∧ (List.length d.seen ≤ (137438953472 : Nat) → d.sec = d.sec ∧ d.on = d.on ∧ d.at_ = d.at_ ∧ d.keys = d.keys ∧ d.seen = d.seen))) := by kernel_rfl
set_option maxHeartbeats 4000000 in
theorem gdClone0 (d : Dv)  (hv : few d.keys ∧ few d.seen) : Box (Tr.sat (newQ (env gl [(45, kCloneW), (57, kCloneSn)]) (.ptr 0 0) ([(0, .cells (dCells 1 2 d)), (1, .recs .u32 d.keys), (2, .recs seenT d.seen)]) 3) (run (env gl [(45, kCloneW), (57, kCloneSn)]) [] (bodyOf Tryd.f42) (start [.rop [.ro .u32 d.keys, .arr .u32 16 d.sec, .bool (.sym d.on), .int .i64 (.full d.at_), .ro seenT d.seen]] 19) (ends (env gl [(45, kCloneW), (57, kCloneSn)]) Tryd.f42.results.toList))) := by
  refine .of (rundClone0 gl d) ?_
  unfold few at hv; exact ⟨by omega, fun _ => ⟨by omega, fun _ => ⟨rfl, rfl, rfl, rfl, rfl⟩⟩⟩
set_option maxHeartbeats 4000000 in
theorem cdClone0 : Con ea has gl 42 kdClone0 := by
  refine new_mkB Tryd.func42 19 (con := [(45, kCloneW), (57, kCloneSn)]) ⟨cCloneW, cCloneSn, trivial⟩ (fun hA hr hv => ?_) (by kernel_rfl) (by kernel_rfl) Tryd.ntmps42
  unfold kdClone0 at hr; split at hr
  · rename_i ks sc on at_ se
    have := ret_ok hr; subst this
    replace hv := hv _ rfl
    exact ⟨_, [], _, _, _, ⟨rfl, rfl, rfl⟩, .of (argdClone0 ks sc on at_ se) (by simp), rfl, rfl, (fun W R ρ0 own0 hown => noSums (by kernel_rfl)), gdClone0 ⟨ks, sc, on.val, at_.val, se⟩  hv⟩
  · cases hr
abbrev kdClone := borN [.box [.ro .u32, .any, .any, .any, .ro seenT]] kdClone0
theorem cdClone : Con ea has gl 42 kdClone := borN_ok cdClone0 _
def kmEnter : List SVal → Nat → Acc ORes := fun a n => match a with | [.agg [.arr .u32 16 x, .int .u32 pc, .bool ie, .bool eie, .int .u32 epc, .int .u32 tv, .int .u32 ca, .int .u32 ad], .int .i64 y, .int .u32 z] => .ret ({ v := .tuple [.agg (enterC (⟨x, pc.val, ie.val, eie.val, epc.val, tv.val, ca.val, ad.val⟩ : Cpu) y.val z.val).enc, .bool (.sym (enterB (⟨x, pc.val, ie.val, eie.val, epc.val, tv.val, ca.val, ad.val⟩ : Cpu)))] }) | _ => .fail "mEnter"
theorem argmEnter (x : List Int) (pc : SI) (ie eie : SB) (epc tv ca ad : SI) (y z : SI) : (all (subL tAtN none' [] deep [.agg [.arr .u32 16 x, .int .u32 pc, .bool ie, .bool eie, .int .u32 epc, .int .u32 tv, .int .u32 ca, .int .u32 ad], .int .i64 y, .int .u32 z] [.agg (⟨x, pc.val, ie.val, eie.val, epc.val, tv.val, ca.val, ad.val⟩ : Cpu).enc, .int .i64 (.full y.val), .int .u32 (.full z.val)])) = (
  x = x ∧ SI.val pc = SI.val pc ∧ SB.val ie = SB.val ie ∧ SB.val eie = SB.val eie ∧ SI.val epc = SI.val epc ∧ SI.val tv = SI.val tv ∧ SI.val ca = SI.val ca ∧ SI.val ad = SI.val ad ∧ SI.val y = SI.val y ∧ SI.val z = SI.val z) := by kernel_rfl
theorem runmEnter (gl : List (Nat × SVal)) (p : Cpu) (y z : Int) : (Tr.sat (plainQ (.tuple [.agg (enterC p y z).enc, .bool (.sym (enterB p))])) (run (env gl []) [] (bodyOf Tryd.f48) (start [.agg p.enc, .int .i64 (.full y), .int .u32 (.full z)] 28) (ends (env gl []) Tryd.f48.results.toList))) = (
  (decide (p.tv = (0 : Int)) = true → p.r = (enterC p y z).r ∧ p.pc = (enterC p y z).pc ∧ p.ie = (enterC p y z).ie ∧ p.eie = (enterC p y z).eie ∧ p.epc = (enterC p y z).epc ∧ p.tv = (enterC p y z).tv ∧ p.cause = (enterC p y z).cause ∧ p.addr = (enterC p y z).addr ∧ false = enterB p) ∧ (decide (p.tv = (0 : Int)) = false → p.r = (enterC p y z).r ∧ p.tv = (enterC p y z).pc ∧ false = (enterC p y z).ie ∧ p.ie = (enterC p y z).eie ∧ p.pc = (enterC p y z).epc ∧ p.tv = (enterC p y z).tv ∧ IntKind.wrap IntKind.u32 y = (enterC p y z).cause ∧ z = (enterC p y z).addr ∧ true = enterB p)) := by kernel_rfl
set_option maxHeartbeats 4000000 in
theorem gmEnter (p : Cpu) (y z : Int)  : Box (Tr.sat (plainQ (.tuple [.agg (enterC p y z).enc, .bool (.sym (enterB p))])) (run (env gl []) [] (bodyOf Tryd.f48) (start [.agg p.enc, .int .i64 (.full y), .int .u32 (.full z)] 28) (ends (env gl []) Tryd.f48.results.toList))) := by
  refine .of (runmEnter gl p y z) ?_
  unfold enterC enterB
  refine ⟨fun h => ?_, fun h => ?_⟩
  · have h := of_decide_eq_true h
    simp [h]
  · have h := of_decide_eq_false h
    simp [h]
set_option maxHeartbeats 4000000 in
theorem cmEnter : Con ea has gl 48 kmEnter := by
  refine plain_mkB Tryd.func48 28 (con := []) trivial (fun hA hr hv => ?_) (by kernel_rfl) (by kernel_rfl) Tryd.ntmps48
  unfold kmEnter at hr; split at hr
  · rename_i x pc ie eie epc tv ca ad y z
    have := ret_ok hr; subst this
    exact ⟨_, [], rfl, rfl, .of (argmEnter x pc ie eie epc tv ca ad y z) (by simp), rfl, (fun W R ρ0 own0 hown => noSums (by kernel_rfl)), gmEnter ⟨x, pc.val, ie.val, eie.val, epc.val, tv.val, ca.val, ad.val⟩ y.val z.val ⟩
  · cases hr
def kmReturn : List SVal → Nat → Acc ORes := fun a n => match a with | [.agg [.arr .u32 16 x, .int .u32 pc, .bool ie, .bool eie, .int .u32 epc, .int .u32 tv, .int .u32 ca, .int .u32 ad]] => .ret ({ v := .agg (returnC (⟨x, pc.val, ie.val, eie.val, epc.val, tv.val, ca.val, ad.val⟩ : Cpu)).enc }) | _ => .fail "mReturn"
theorem argmReturn (x : List Int) (pc : SI) (ie eie : SB) (epc tv ca ad : SI) : (all (subL tAtN none' [] deep [.agg [.arr .u32 16 x, .int .u32 pc, .bool ie, .bool eie, .int .u32 epc, .int .u32 tv, .int .u32 ca, .int .u32 ad]] [.agg (⟨x, pc.val, ie.val, eie.val, epc.val, tv.val, ca.val, ad.val⟩ : Cpu).enc])) = (
  x = x ∧ SI.val pc = SI.val pc ∧ SB.val ie = SB.val ie ∧ SB.val eie = SB.val eie ∧ SI.val epc = SI.val epc ∧ SI.val tv = SI.val tv ∧ SI.val ca = SI.val ca ∧ SI.val ad = SI.val ad) := by kernel_rfl
theorem runmReturn (gl : List (Nat × SVal)) (p : Cpu) : (Tr.sat (plainQ (.agg (returnC p).enc)) (run (env gl []) [] (bodyOf Tryd.f67) (start [.agg p.enc] 12) (ends (env gl []) Tryd.f67.results.toList))) = (
  p.r = (returnC p).r ∧ p.epc = (returnC p).pc ∧ p.eie = (returnC p).ie ∧ false = (returnC p).eie ∧ (0 : Int) = (returnC p).epc ∧ p.tv = (returnC p).tv ∧ p.cause = (returnC p).cause ∧ p.addr = (returnC p).addr) := by kernel_rfl
set_option maxHeartbeats 4000000 in
theorem gmReturn (p : Cpu)  : Box (Tr.sat (plainQ (.agg (returnC p).enc)) (run (env gl []) [] (bodyOf Tryd.f67) (start [.agg p.enc] 12) (ends (env gl []) Tryd.f67.results.toList))) := by
  refine .of (runmReturn gl p) ?_
  exact ⟨rfl, rfl, rfl, rfl, rfl, rfl, rfl, rfl⟩
set_option maxHeartbeats 4000000 in
theorem cmReturn : Con ea has gl 67 kmReturn := by
  refine plain_mkB Tryd.func67 12 (con := []) trivial (fun hA hr hv => ?_) (by kernel_rfl) (by kernel_rfl) Tryd.ntmps67
  unfold kmReturn at hr; split at hr
  · rename_i x pc ie eie epc tv ca ad
    have := ret_ok hr; subst this
    exact ⟨_, [], rfl, rfl, .of (argmReturn x pc ie eie epc tv ca ad) (by simp), rfl, (fun W R ρ0 own0 hown => noSums (by kernel_rfl)), gmReturn ⟨x, pc.val, ie.val, eie.val, epc.val, tv.val, ca.val, ad.val⟩ ⟩
  · cases hr
def kmWaits0 : List SVal → Nat → Acc ORes := fun a n => match a with | [.agg [.arr .u32 16 x, .int .u32 pc, .bool ie, .bool eie, .int .u32 epc, .int .u32 tv, .int .u32 ca, .int .u32 ad], .rop [.ro .u32 ks, .arr .u32 16 sc, .bool on, .int .i64 at_, .ro (.flat (.int .i64) [.int .u32, .int .u32]) se], .int .i64 y, .bool z] => .ret ({ v := .int .i64 (.full (waitsW (⟨x, pc.val, ie.val, eie.val, epc.val, tv.val, ca.val, ad.val⟩ : Cpu) (⟨ks, sc, on.val, at_.val, se⟩ : Dv) y.val z.val)) }) | _ => .fail "mWaits0"
theorem argmWaits0 (x : List Int) (pc : SI) (ie eie : SB) (epc tv ca ad : SI) (ks : List Int) (sc : List Int) (on : SB) (at_ : SI) (se : List (Int × Int × Int)) (y : SI) (z : SB) : (all (subL tAtN none' [] deep [.agg [.arr .u32 16 x, .int .u32 pc, .bool ie, .bool eie, .int .u32 epc, .int .u32 tv, .int .u32 ca, .int .u32 ad], .rop [.ro .u32 ks, .arr .u32 16 sc, .bool on, .int .i64 at_, .ro (.flat (.int .i64) [.int .u32, .int .u32]) se], .int .i64 y, .bool z] [.agg (⟨x, pc.val, ie.val, eie.val, epc.val, tv.val, ca.val, ad.val⟩ : Cpu).enc, .rop [.ro .u32 (⟨ks, sc, on.val, at_.val, se⟩ : Dv).keys, .arr .u32 16 (⟨ks, sc, on.val, at_.val, se⟩ : Dv).sec, .bool (.sym (⟨ks, sc, on.val, at_.val, se⟩ : Dv).on), .int .i64 (.full (⟨ks, sc, on.val, at_.val, se⟩ : Dv).at_), .ro seenT (⟨ks, sc, on.val, at_.val, se⟩ : Dv).seen], .int .i64 (.full y.val), .bool (.sym z.val)])) = (
  x = x ∧ SI.val pc = SI.val pc ∧ SB.val ie = SB.val ie ∧ SB.val eie = SB.val eie ∧ SI.val epc = SI.val epc ∧ SI.val tv = SI.val tv ∧ SI.val ca = SI.val ca ∧ SI.val ad = SI.val ad ∧ ks = ks ∧ sc = sc ∧ SB.val on = SB.val on ∧ SI.val at_ = SI.val at_ ∧ se = se ∧ SI.val y = SI.val y ∧ SB.val z = SB.val z) := by kernel_rfl
theorem runmWaits0 (gl : List (Nat × SVal)) (p : Cpu) (d : Dv) (y : Int) (z : Bool) : (Tr.sat (plainQ (.int .i64 (.full (waitsW p d y z)))) (run (env gl [(46, kmDue), (47, kmKeys)]) [] (bodyOf Tryd.f35) (start [.agg p.enc, .rop [.ro .u32 d.keys, .arr .u32 16 d.sec, .bool (.sym d.on), .int .i64 (.full d.at_), .ro seenT d.seen], .int .i64 (.full y), .bool (.sym z)] 23) (ends (env gl [(46, kmDue), (47, kmKeys)]) Tryd.f35.results.toList))) = (
  ((!p.ie) = true → (0 : Int) = waitsW p d y z) ∧ ((!p.ie) = false → (dDue d y = true → (2 : Int) = waitsW p d y z) ∧ (dDue d y = false → (decide ((0 : Int) < (↑(List.length d.keys) : Int)) = true → (3 : Int) = waitsW p d y z) ∧ (decide ((0 : Int) < (↑(List.length d.keys) : Int)) = false → (z = true → (5 : Int) = waitsW p d y z) ∧ (z = false → (0 : Int) = waitsW p d y z))))) := by kernel_rfl
set_option maxHeartbeats 4000000 in
theorem gmWaits0 (p : Cpu) (d : Dv) (y : Int) (z : Bool)  : Box (Tr.sat (plainQ (.int .i64 (.full (waitsW p d y z)))) (run (env gl [(46, kmDue), (47, kmKeys)]) [] (bodyOf Tryd.f35) (start [.agg p.enc, .rop [.ro .u32 d.keys, .arr .u32 16 d.sec, .bool (.sym d.on), .int .i64 (.full d.at_), .ro seenT d.seen], .int .i64 (.full y), .bool (.sym z)] 23) (ends (env gl [(46, kmDue), (47, kmKeys)]) Tryd.f35.results.toList))) := by
  refine .of (runmWaits0 gl p d y z) ?_
  unfold waitsW
  refine ⟨fun h => ?_, fun h => ⟨fun h2 => ?_, fun h2 => ⟨fun h3 => ?_, fun h3 => ⟨fun h4 => ?_, fun h4 => ?_⟩⟩⟩⟩ <;> simp_all
set_option maxHeartbeats 4000000 in
theorem cmWaits0 : Con ea has gl 35 kmWaits0 := by
  refine plain_mkB Tryd.func35 23 (con := [(46, kmDue), (47, kmKeys)]) ⟨cmDue, cmKeys, trivial⟩ (fun hA hr hv => ?_) (by kernel_rfl) (by kernel_rfl) Tryd.ntmps35
  unfold kmWaits0 at hr; split at hr
  · rename_i x pc ie eie epc tv ca ad ks sc on at_ se y z
    have := ret_ok hr; subst this
    exact ⟨_, [], rfl, rfl, .of (argmWaits0 x pc ie eie epc tv ca ad ks sc on at_ se y z) (by simp), rfl, (fun W R ρ0 own0 hown => noSums (by kernel_rfl)), gmWaits0 ⟨x, pc.val, ie.val, eie.val, epc.val, tv.val, ca.val, ad.val⟩ ⟨ks, sc, on.val, at_.val, se⟩ y.val z.val ⟩
  · cases hr
abbrev kmWaits := bor [.any, .box [.ro .u32, .any, .any, .any, .ro seenT], .any, .any] kmWaits0
theorem cmWaits : Con ea has gl 35 kmWaits := bor_ok cmWaits0 _
end
end Go.Proofs.YtpjccdncokamlaaDoor

