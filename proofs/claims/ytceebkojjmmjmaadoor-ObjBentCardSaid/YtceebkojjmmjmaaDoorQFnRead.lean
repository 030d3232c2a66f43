/- Contracts that the proofs use. -/
import Derived.Test.YtceebkojjmmjmaaDoorQFnSee
import Derived.Test.YtceebkojjmmjmaaDoorQReadM
set_option linter.unusedVariables false
set_option linter.unusedSimpArgs false
namespace Go.Proofs.YtceebkojjmmjmaaDoor
open Go.RowKit Go.Sy Go.Fac
section
variable {ea : Int → Addr} {has : Int → Prop} {rest : List (Nat × SVal)}
def krfail : List SVal → Nat → Acc ORes := fun a n => match a with
  | [.ptr q 0, .err x] => .look q fun cc => match cc with | some (.cells [.ro .u8 l, .err e]) => (.ret (genR [q] (gone []) n (.tuple []) ([(0, .cells [.ro .u8 l, .err (if e.isErr = true then e else x)])]) 0)) | _ => .fail "rfail"
  | _ => .fail "rfail"
theorem fitrfail (rest : List (Nat × SVal)) (x : FErr) (l : List Int) (e : FErr) : (fits (envK (G7 ++ (G9 ++ rest)) [] 1) (S1 [.ptr 0 0, .err x] (numC 0 [.cells [.ro .u8 l, .err e]]) 1 13) (S1 [.ptr 0 0, .err x] [(0, some (.cells [.ro .u8 l, .err e]))] 1 13)) = (
  x = x ∧ l = l ∧ e = e) := by kernel_rfl
theorem runrfail (rest : List (Nat × SVal)) (x : FErr) (l : List Int) (e : FErr) : (Tr.sat (newQ (envK (G7 ++ (G9 ++ rest)) [] 1) (.tuple []) ([(0, .cells [.ro .u8 l, .err (if e.isErr = true then e else x)])]) (1 + 0)) (run (envK (G7 ++ (G9 ++ rest)) [] 1) [] (bodyOf Tryd.f69) (S1 [.ptr 0 0, .err x] [(0, some (.cells [.ro .u8 l, .err e]))] 1 13) (ends (envK (G7 ++ (G9 ++ rest)) [] 1) Tryd.f69.results.toList))) = (
  ((!FErr.isErr e) = true → l = l ∧ x = if FErr.isErr e = true then e else x) ∧ ((!FErr.isErr e) = false → l = l ∧ e = if FErr.isErr e = true then e else x)) := by kernel_rfl
set_option maxHeartbeats 4000000 in
theorem grfail (x : FErr) (l : List Int) (e : FErr)  : Box (Tr.sat (newQ (envK (G7 ++ (G9 ++ rest)) [] 1) (.tuple []) ([(0, .cells [.ro .u8 l, .err (if e.isErr = true then e else x)])]) (1 + 0)) (run (envK (G7 ++ (G9 ++ rest)) [] 1) [] (bodyOf Tryd.f69) (S1 [.ptr 0 0, .err x] [(0, some (.cells [.ro .u8 l, .err e]))] 1 13) (ends (envK (G7 ++ (G9 ++ rest)) [] 1) Tryd.f69.results.toList))) := by
  refine .of (runrfail rest x l e) ?_
  cases e.isErr <;> simp
set_option maxHeartbeats 4000000 in
theorem crfail : Con ea has (G7 ++ (G9 ++ rest)) 69 krfail := by
  refine gen_mk Tryd.func69 13 1 (con := []) trivial (fun hA hr hv => ?_) (by kernel_rfl) (by kernel_rfl) Tryd.ntmps69
  unfold krfail at hr; split at hr
  · rename_i q x
    simp only [Acc.run] at hr
    split at hr
    · rename_i l e hq
      have := ret_ok hr; subst this
      refine ⟨[q], [], [.cells [.ro .u8 l, .err e]], [.ptr 0 0, .err x], (S1 [.ptr 0 0, .err x] [(0, some (.cells [.ro .u8 l, .err e]))] 1 13), [], .tuple [], [(0, .cells [.ro .u8 l, .err (if e.isErr = true then e else x)])], 0, rfl, rfl, ⟨rfl, rfl, rfl⟩, rfl, ⟨hq, trivial⟩, rfl, rfl, .of (fitrfail rest x l e) (by simp [nilR]), rfl, (fun W R ρ0 own0 hown => noSums (by kernel_rfl)), grfail x l e⟩
    · cases hr
  · cases hr
def krtake : List SVal → Nat → Acc ORes := fun a n => match a with
  | [.ptr q 0, .int .i64 nn] => .look q fun cc => match cc with | some (.cells [.ro .u8 l, .err e]) => (.ret (genR [q] (gone []) n (.own 1) ([(0, .cells [.ro .u8 (tkL nn.val l e), .err (tkE nn.val l e)]), (1, .recs .u8 (tkX nn.val l e))]) 1 (some (0 ≤ nn.val ∧ nn.val ≤ 1000000)))) | _ => .fail "rtake"
  | _ => .fail "rtake"
theorem fitrtake (rest : List (Nat × SVal)) (nn : SI) (l : List Int) (e : FErr) : (fits (envK (G7 ++ (G9 ++ rest)) [(69, krfail), (88, kCloneB)] 1) (S1 [.ptr 0 0, .int .i64 nn] (numC 0 [.cells [.ro .u8 l, .err e]]) 1 38) (S1 [.ptr 0 0, .int .i64 (.full nn.val)] [(0, some (.cells [.ro .u8 l, .err e]))] 1 38)) = (
  SI.val nn = SI.val nn ∧ l = l ∧ e = e) := by kernel_rfl
theorem runrtake (rest : List (Nat × SVal)) (nn : Int) (l : List Int) (e : FErr) : (Tr.sat (newQ (envK (G7 ++ (G9 ++ rest)) [(69, krfail), (88, kCloneB)] 1) (.own 1) ([(0, .cells [.ro .u8 (tkL nn l e), .err (tkE nn l e)]), (1, .recs .u8 (tkX nn l e))]) (1 + 1)) (run (envK (G7 ++ (G9 ++ rest)) [(69, krfail), (88, kCloneB)] 1) [] (bodyOf Tryd.f66) (S1 [.ptr 0 0, .int .i64 (.full nn)] [(0, some (.cells [.ro .u8 l, .err e]))] 1 38) (ends (envK (G7 ++ (G9 ++ rest)) [(69, krfail), (88, kCloneB)] 1) Tryd.f66.results.toList))) = (
  ((!!FErr.isErr e) = true → l = tkL nn l e ∧ e = tkE nn l e ∧ @List.nil (RT.ty RT.u8) = tkX nn l e) ∧ ((!!FErr.isErr e) = false → (decide ((↑(List.length l) : Int) < nn) = true → l = tkL nn l e ∧ (if FErr.isErr e = true then e else FErr.bare (101 : Int)) = tkE nn l e ∧ @List.nil (RT.ty RT.u8) = tkX nn l e) ∧ (decide ((↑(List.length l) : Int) < nn) = false → ((0 : Int) ≤ nn ∧ nn ≤ (↑(List.length l) : Int)) ∧ ((0 : Int) ≤ nn ∧ nn ≤ (↑(List.length l) : Int) → ((0 : Int) ≤ nn ∧ nn ≤ (↑(List.length l) : Int)) ∧ ((0 : Int) ≤ nn ∧ nn ≤ (↑(List.length l) : Int) → List.length (pieceL l none (some (SI.full nn))) ≤ (137438953472 : Nat) ∧ (List.length (pieceL l none (some (SI.full nn))) ≤ (137438953472 : Nat) → pieceL l (some (SI.full nn)) none = tkL nn l e ∧ e = tkE nn l e ∧ pieceL l none (some (SI.full nn)) = tkX nn l e)))))) := by kernel_rfl
set_option maxHeartbeats 4000000 in
theorem grtake (nn : Int) (l : List Int) (e : FErr) (hv : 0 ≤ nn ∧ nn ≤ 1000000) : Box (Tr.sat (newQ (envK (G7 ++ (G9 ++ rest)) [(69, krfail), (88, kCloneB)] 1) (.own 1) ([(0, .cells [.ro .u8 (tkL nn l e), .err (tkE nn l e)]), (1, .recs .u8 (tkX nn l e))]) (1 + 1)) (run (envK (G7 ++ (G9 ++ rest)) [(69, krfail), (88, kCloneB)] 1) [] (bodyOf Tryd.f66) (S1 [.ptr 0 0, .int .i64 (.full nn)] [(0, some (.cells [.ro .u8 l, .err e]))] 1 38) (ends (envK (G7 ++ (G9 ++ rest)) [(69, krfail), (88, kCloneB)] 1) Tryd.f66.results.toList))) := by
  refine .of (runrtake rest nn l e) ?_
  obtain ⟨h0, h1⟩ := hv
  rw [tkL_is, tkE_is, tkX_is]
  refine ⟨fun h => ?_, fun h => ⟨fun g => ?_, fun g => ⟨⟨h0, ?_⟩, fun _ => ⟨⟨h0, ?_⟩, fun _ => ⟨?_, fun _ => ?_⟩⟩⟩⟩⟩
  · have h : e.isErr = true := by simpa using h
    simp [h]
  · have h : e.isErr = false := by simpa using h
    have g := of_decide_eq_true g
    simp [h, g]
  · have g := of_decide_eq_false g; omega
  · have g := of_decide_eq_false g; omega
  · show (l.take nn.toNat).length ≤ _; rw [List.length_take]; omega
  · have h : e.isErr = false := by simpa using h
    have g := of_decide_eq_false g
    have h' : ¬ e.isErr = true := by rw [h]; decide
    rw [if_neg h', if_neg h', if_neg h', if_neg g, if_neg g, if_neg g]
    exact ⟨rfl, rfl, rfl⟩
set_option maxHeartbeats 4000000 in
theorem crtake : Con ea has (G7 ++ (G9 ++ rest)) 66 krtake := by
  refine gen_mk Tryd.func66 38 1 (con := [(69, krfail), (88, kCloneB)]) ⟨crfail, cCloneB, trivial⟩ (fun hA hr hv => ?_) (by kernel_rfl) (by kernel_rfl) Tryd.ntmps66
  unfold krtake at hr; split at hr
  · rename_i q nn
    simp only [Acc.run] at hr
    split at hr
    · rename_i l e hq
      have := ret_ok hr; subst this
      refine ⟨[q], [], [.cells [.ro .u8 l, .err e]], [.ptr 0 0, .int .i64 nn], (S1 [.ptr 0 0, .int .i64 (.full nn.val)] [(0, some (.cells [.ro .u8 l, .err e]))] 1 38), [], .own 1, [(0, .cells [.ro .u8 (tkL nn.val l e), .err (tkE nn.val l e)]), (1, .recs .u8 (tkX nn.val l e))], 1, rfl, rfl, ⟨rfl, rfl, rfl⟩, rfl, ⟨hq, trivial⟩, rfl, rfl, .of (fitrtake rest nn l e) (by simp [nilR]), rfl, (fun W R ρ0 own0 hown => noSums (by kernel_rfl)), grtake nn.val l e (hv _ rfl)⟩
    · cases hr
  · cases hr
def Hrword' (l : List Int) (e : FErr) (x : List Int) (i : Nat) : SState := { fr := [(14, .own 1), (15, .int .i64 (.lit 4)), (16, .int .i64 (.sym i 0 4)), (4, .int .u32 (.full (accW x i)))], hp := [(0, some (.cells [.ro .u8 l, .err e])), (1, some (.recs .u8 x))], next := 2, sz := 30 }
def Xrword' (l : List Int) (e : FErr) (x : List Int) : SState := { fr := [(4, .int .u32 (.full (accW x 4)))], hp := [(0, some (.cells [.ro .u8 l, .err e]))], next := 1, sz := 30 }
def Lrword' (l : List Int) (e : FErr) (x : List Int) : LSum := ⟨Hrword' l e x 0, fun k => k (.exit 0) (Xrword' l e x), x.length = 4⟩
theorem brword' (rest : List (Nat × SVal)) (l : List Int) (e : FErr) (x : List Int) (i : Nat) : (Tr.sat (rnd1 (envK (G7 ++ (G9 ++ rest)) [(66, krtake)] 1) (fun _ => True) (x.length) (Hrword' l e x) 0 (Xrword' l e x) i) (run (envK (G7 ++ (G9 ++ rest)) [(66, krtake)] 1) [] (loopN (bodyOf Tryd.f63) 0) (Hrword' l e x i) .leaf)) = (
  (decide ((↑i : Int) < (4 : Int)) = true → ((0 : Int) ≤ (↑i : Int) ∧ (↑i : Int) < (↑(List.length x) : Int)) ∧ ((0 : Int) ≤ (↑i : Int) ∧ (↑i : Int) < (↑(List.length x) : Int) → (0 : Int) ≤ (↑i : Int) * (8 : Int) ∧ ((0 : Int) ≤ (↑i : Int) * (8 : Int) → i < List.length x ∧ True ∧ (4 : Int) = (4 : Int) ∧ (↑i : Int) + (1 : Int) = (↑(i + (1 : Nat)) : Int) ∧ ((0 : Int) ≤ (↑(i + (1 : Nat)) : Int) ∧ (↑(i + (1 : Nat)) : Int) ≤ (4 : Int)) ∧ bits BinOp.or IntKind.u32 (accW x i) (IntKind.wrap IntKind.u32 (List.getD x (Int.toNat (↑i : Int)) (RT.dflt RT.u8) * (2 : Int) ^ min (Int.toNat ((↑i : Int) * (8 : Int))) (IntKind.bits IntKind.u32))) = accW x (i + (1 : Nat)) ∧ l = l ∧ e = e ∧ x = x))) ∧ (decide ((↑i : Int) < (4 : Int)) = false → Nat.beq (0 : Nat) (0 : Nat) = true ∧ accW x i = accW x (4 : Nat) ∧ l = l ∧ e = e)) := by kernel_rfl
set_option maxHeartbeats 4000000 in
theorem lrword' (l : List Int) (e : FErr) (x : List Int) {W : World} {R own0 : Nat → Prop} {ρ0 : Nat → Option Value} (hown : HownOk (envK (G7 ++ (G9 ++ rest)) [(66, krtake)] 1) own0 ρ0) : LOk Tryd.prog (envK (G7 ++ (G9 ++ rest)) [(66, krtake)] 1) (ctx ea has) (G7 ++ (G9 ++ rest)) W R own0 ρ0 (loopN (bodyOf Tryd.f63) 0) (Lrword' l e x) := by
  refine loop1_ok (envK_ok (con := [(66, krtake)]) ⟨crtake, trivial⟩) hown (ls := fun i => []) (fun i => noSums (by kernel_rfl)) (fun hm i hi hj => (brword' rest l e x i).mpr ?_) 0 (fun hm => by first | exact Nat.zero_le _ | omega) (fun hm => trivial)
  refine ⟨fun h => ?_, fun h => ?_⟩
  · have h := of_decide_eq_true h
    refine ⟨by omega, fun _ => ⟨by omega, fun _ => ⟨by omega, trivial, rfl, by omega, by omega, ?_, rfl, rfl, rfl⟩⟩⟩
    rw [accW_succ, show ((i : Int) * 8).toNat = 8 * i by omega]; rfl
  · have h := of_decide_eq_false h
    have : i = 4 := by omega
    subst this
    exact ⟨rfl, rfl, rfl, rfl⟩
def krword : List SVal → Nat → Acc ORes := fun a n => match a with
  | [.ptr q 0] => .look q fun cc => match cc with | some (.cells [.ro .u8 l, .err e]) => (.ret (genR [q] (gone []) n (.int .u32 (.full (w4W l e))) ([(0, .cells [.ro .u8 (w4L l e), .err (w4E l e)])]) 0)) | _ => .fail "rword"
  | _ => .fail "rword"
theorem fitrword (rest : List (Nat × SVal)) (l : List Int) (e : FErr) : (fits (envK (G7 ++ (G9 ++ rest)) [(66, krtake)] 1) (S1 [.ptr 0 0] (numC 0 [.cells [.ro .u8 l, .err e]]) 1 30) (S1 [.ptr 0 0] [(0, some (.cells [.ro .u8 l, .err e]))] 1 30)) = (
  l = l ∧ e = e) := by kernel_rfl
theorem runrword (rest : List (Nat × SVal)) (l : List Int) (e : FErr) : (Tr.sat (newQ (envK (G7 ++ (G9 ++ rest)) [(66, krtake)] 1) (.int .u32 (.full (w4W l e))) ([(0, .cells [.ro .u8 (w4L l e), .err (w4E l e)])]) (1 + 0)) (run (envK (G7 ++ (G9 ++ rest)) [(66, krtake)] 1) [(6, Lrword' (tkL 4 l e) (tkE 4 l e) (tkX 4 l e))] (bodyOf Tryd.f63) (S1 [.ptr 0 0] [(0, some (.cells [.ro .u8 l, .err e]))] 1 30) (ends (envK (G7 ++ (G9 ++ rest)) [(66, krtake)] 1) Tryd.f63.results.toList))) = (
  ((0 : Int) ≤ (4 : Int) ∧ (4 : Int) ≤ (1000000 : Int)) ∧ ((0 : Int) ≤ (4 : Int) ∧ (4 : Int) ≤ (1000000 : Int) → ((!!FErr.isErr (tkE (4 : Int) l e)) = true → (0 : Int) = w4W l e ∧ tkL (4 : Int) l e = w4L l e ∧ tkE (4 : Int) l e = w4E l e) ∧ ((!!FErr.isErr (tkE (4 : Int) l e)) = false → (List.length (tkX (4 : Int) l e) = (4 : Nat) ∧ (↑(List.length (tkX (4 : Int) l e)) : Int) = (4 : Int) ∧ (0 : Int) = (↑(0 : Nat) : Int) ∧ (0 : Int) = accW (tkX (4 : Int) l e) (0 : Nat) ∧ tkL (4 : Int) l e = tkL (4 : Int) l e ∧ tkE (4 : Int) l e = tkE (4 : Int) l e ∧ tkX (4 : Int) l e = tkX (4 : Int) l e) ∧ (List.length (tkX (4 : Int) l e) = (4 : Nat) ∧ (↑(List.length (tkX (4 : Int) l e)) : Int) = (4 : Int) ∧ (0 : Int) = (↑(0 : Nat) : Int) ∧ (0 : Int) = accW (tkX (4 : Int) l e) (0 : Nat) ∧ tkL (4 : Int) l e = tkL (4 : Int) l e ∧ tkE (4 : Int) l e = tkE (4 : Int) l e ∧ tkX (4 : Int) l e = tkX (4 : Int) l e → accW (tkX (4 : Int) l e) (4 : Nat) = w4W l e ∧ tkL (4 : Int) l e = w4L l e ∧ tkE (4 : Int) l e = w4E l e)))) := by kernel_rfl
set_option maxHeartbeats 4000000 in
theorem grword (l : List Int) (e : FErr)  : Box (Tr.sat (newQ (envK (G7 ++ (G9 ++ rest)) [(66, krtake)] 1) (.int .u32 (.full (w4W l e))) ([(0, .cells [.ro .u8 (w4L l e), .err (w4E l e)])]) (1 + 0)) (run (envK (G7 ++ (G9 ++ rest)) [(66, krtake)] 1) [(6, Lrword' (tkL 4 l e) (tkE 4 l e) (tkX 4 l e))] (bodyOf Tryd.f63) (S1 [.ptr 0 0] [(0, some (.cells [.ro .u8 l, .err e]))] 1 30) (ends (envK (G7 ++ (G9 ++ rest)) [(66, krtake)] 1) Tryd.f63.results.toList))) := by
  refine .of (runrword rest l e) ?_
  refine ⟨by omega, fun _ => ⟨fun h => ?_, fun h => ?_⟩⟩
  · have h : (tkE 4 l e).isErr = true := by simpa using h
    rw [w4W_is, if_pos h]
    exact ⟨rfl, rfl, rfl⟩
  · have h : (tkE 4 l e).isErr = false := by simpa using h
    have hl : (tkX 4 l e).length = 4 := tkX_len (by decide) h
    rw [w4W_is, if_neg (by rw [h]; decide)]
    exact ⟨⟨hl, by omega, rfl, (accW_zero _).symm, rfl, rfl, rfl⟩, fun _ => ⟨rfl, rfl, rfl⟩⟩
set_option maxHeartbeats 4000000 in
theorem crword : Con ea has (G7 ++ (G9 ++ rest)) 63 krword := by
  refine gen_mk Tryd.func63 30 1 (con := [(66, krtake)]) ⟨crtake, trivial⟩ (fun hA hr hv => ?_) (by kernel_rfl) (by kernel_rfl) Tryd.ntmps63
  unfold krword at hr; split at hr
  · rename_i q
    simp only [Acc.run] at hr
    split at hr
    · rename_i l e hq
      have := ret_ok hr; subst this
      refine ⟨[q], [], [.cells [.ro .u8 l, .err e]], [.ptr 0 0], (S1 [.ptr 0 0] [(0, some (.cells [.ro .u8 l, .err e]))] 1 30), [(6, Lrword' (tkL 4 l e) (tkE 4 l e) (tkX 4 l e))], .int .u32 (.full (w4W l e)), [(0, .cells [.ro .u8 (w4L l e), .err (w4E l e)])], 0, rfl, rfl, ⟨rfl, rfl, rfl⟩, rfl, ⟨hq, trivial⟩, rfl, rfl, .of (fitrword rest l e) (by simp [nilR]), rfl, (fun W R ρ0 own0 hown => hl1 (by kernel_rfl) (by kernel_rfl) (lrword' (tkL 4 l e) (tkE 4 l e) (tkX 4 l e) hown)), grword l e⟩
    · cases hr
  · cases hr
def krupTo : List SVal → Nat → Acc ORes := fun a n => match a with
  | [.ptr q 0, .int .u32 top, .err x] => .look q fun cc => match cc with | some (.cells [.ro .u8 l, .err e]) => (.ret (genR [q] (gone []) n (.int .i64 (.full (upN top.val l e))) ([(0, .cells [.ro .u8 (w4L l e), .err (upE top.val x l e)])]) 0)) | _ => .fail "rupTo"
  | _ => .fail "rupTo"
theorem fitrupTo (rest : List (Nat × SVal)) (top : SI) (x : FErr) (l : List Int) (e : FErr) : (fits (envK (G7 ++ (G9 ++ rest)) [(63, krword), (69, krfail)] 1) (S1 [.ptr 0 0, .int .u32 top, .err x] (numC 0 [.cells [.ro .u8 l, .err e]]) 1 25) (S1 [.ptr 0 0, .int .u32 (.full top.val), .err x] [(0, some (.cells [.ro .u8 l, .err e]))] 1 25)) = (
  SI.val top = SI.val top ∧ x = x ∧ l = l ∧ e = e) := by kernel_rfl
theorem runrupTo (rest : List (Nat × SVal)) (top : Int) (x : FErr) (l : List Int) (e : FErr) : (Tr.sat (newQ (envK (G7 ++ (G9 ++ rest)) [(63, krword), (69, krfail)] 1) (.int .i64 (.full (upN top l e))) ([(0, .cells [.ro .u8 (w4L l e), .err (upE top x l e)])]) (1 + 0)) (run (envK (G7 ++ (G9 ++ rest)) [(63, krword), (69, krfail)] 1) [] (bodyOf Tryd.f64) (S1 [.ptr 0 0, .int .u32 (.full top), .err x] [(0, some (.cells [.ro .u8 l, .err e]))] 1 25) (ends (envK (G7 ++ (G9 ++ rest)) [(63, krword), (69, krfail)] 1) Tryd.f64.results.toList))) = (
  ((!FErr.isErr (w4E l e) && decide (top < w4W l e)) = true → (0 : Int) = upN top l e ∧ w4L l e = w4L l e ∧ (if FErr.isErr (w4E l e) = true then w4E l e else x) = upE top x l e) ∧ ((!FErr.isErr (w4E l e) && decide (top < w4W l e)) = false → w4W l e = upN top l e ∧ w4L l e = w4L l e ∧ w4E l e = upE top x l e)) := by kernel_rfl
set_option maxHeartbeats 4000000 in
theorem grupTo (top : Int) (x : FErr) (l : List Int) (e : FErr)  : Box (Tr.sat (newQ (envK (G7 ++ (G9 ++ rest)) [(63, krword), (69, krfail)] 1) (.int .i64 (.full (upN top l e))) ([(0, .cells [.ro .u8 (w4L l e), .err (upE top x l e)])]) (1 + 0)) (run (envK (G7 ++ (G9 ++ rest)) [(63, krword), (69, krfail)] 1) [] (bodyOf Tryd.f64) (S1 [.ptr 0 0, .int .u32 (.full top), .err x] [(0, some (.cells [.ro .u8 l, .err e]))] 1 25) (ends (envK (G7 ++ (G9 ++ rest)) [(63, krword), (69, krfail)] 1) Tryd.f64.results.toList))) := by
  refine .of (runrupTo rest top x l e) ?_
  rw [upN_is, upE_is]
  refine ⟨fun h => ?_, fun h => ?_⟩
  · have h : (w4E l e).isErr = false ∧ top < w4W l e := by simpa using h
    rw [if_pos h, if_pos h, if_neg (by rw [h.1]; decide)]
    exact ⟨rfl, rfl, rfl⟩
  · have h : ¬ ((w4E l e).isErr = false ∧ top < w4W l e) := by
      intro hc; rw [hc.1, decide_eq_true hc.2] at h; cases h
    rw [if_neg h, if_neg h]
    exact ⟨rfl, rfl, rfl⟩
set_option maxHeartbeats 4000000 in
theorem crupTo : Con ea has (G7 ++ (G9 ++ rest)) 64 krupTo := by
  refine gen_mk Tryd.func64 25 1 (con := [(63, krword), (69, krfail)]) ⟨crword, crfail, trivial⟩ (fun hA hr hv => ?_) (by kernel_rfl) (by kernel_rfl) Tryd.ntmps64
  unfold krupTo at hr; split at hr
  · rename_i q top x
    simp only [Acc.run] at hr
    split at hr
    · rename_i l e hq
      have := ret_ok hr; subst this
      refine ⟨[q], [], [.cells [.ro .u8 l, .err e]], [.ptr 0 0, .int .u32 top, .err x], (S1 [.ptr 0 0, .int .u32 (.full top.val), .err x] [(0, some (.cells [.ro .u8 l, .err e]))] 1 25), [], .int .i64 (.full (upN top.val l e)), [(0, .cells [.ro .u8 (w4L l e), .err (upE top.val x l e)])], 0, rfl, rfl, ⟨rfl, rfl, rfl⟩, rfl, ⟨hq, trivial⟩, rfl, rfl, .of (fitrupTo rest top x l e) (by simp [nilR]), rfl, (fun W R ρ0 own0 hown => noSums (by kernel_rfl)), grupTo top.val x l e⟩
    · cases hr
  · cases hr
end
end Go.Proofs.YtceebkojjmmjmaaDoor

