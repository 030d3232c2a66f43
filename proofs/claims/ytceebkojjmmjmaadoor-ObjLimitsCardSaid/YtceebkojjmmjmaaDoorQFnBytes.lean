/- Contracts that the proofs use. -/
import Derived.Test.YtceebkojjmmjmaaDoorQFnNum
import Derived.Test.YtceebkojjmmjmaaDoorQFnSite
set_option linter.unusedVariables false
set_option linter.unusedSimpArgs false
namespace Go.Proofs.YtceebkojjmmjmaaDoor
open Go.RowKit Go.Sy Go.Fac
section
variable {ea : Ear} {has : Int → Prop} {rest : List (Nat × SVal)}
def wordB (w : Int) : List Int := [IntKind.u8.wrap w, IntKind.u8.wrap (w / 256), IntKind.u8.wrap (w / 65536), w / 16777216]
def wordsB (l : List Int) : List Int := l.flatMap wordB
theorem wordsB_len (l : List Int) : (wordsB l).length = 4 * l.length := by
  unfold wordsB
  induction l with
  | nil => rfl
  | cons a l ih => rw [List.flatMap_cons, List.length_append, ih]; simp [wordB]; omega
def Hputs (b l : List Int) (i : Nat) : SState := { fr := [(0, .own 0), (1, .ro .u32 l), (7, .ro .u32 l), (8, .int .i64 (.full l.length)), (9, .int .i64 (.sym i 0 1000000))], hp := [(0, some (.recs .u8 (b ++ wordsB (l.take i))))], next := 1, sz := 29 }
def Xputs (b l : List Int) : SState := { fr := [(0, .own 0)], hp := [(0, some (.recs .u8 (b ++ wordsB l)))], next := 1, sz := 29 }
def Lputs (b l : List Int) : LSum := ⟨Hputs b l 0, fun k => k (.exit 0) (Xputs b l), b.length ≤ 1000000 ∧ l.length ≤ 1000000⟩
theorem bputs (rest : List (Nat × SVal)) (b l : List Int) (i : Nat) : (Tr.sat (rnd1 (env (G7 ++ rest) []) (fun _ => True) (l.length) (Hputs b l) 0 (Xputs b l) i) (run (env (G7 ++ rest) []) [] (loopN (bodyOf Tryd.f70) 0) (Hputs b l i) .leaf)) = (
  (decide ((↑i : Int) < (↑(List.length l) : Int)) = true → ((0 : Int) ≤ (↑i : Int) ∧ (↑i : Int) < (↑(List.length l) : Int)) ∧ ((0 : Int) ≤ (↑i : Int) ∧ (↑i : Int) < (↑(List.length l) : Int) → List.length (b ++ wordsB (List.take i l)) + List.length [IntKind.wrap IntKind.u8 (List.getD l (Int.toNat (↑i : Int)) (RT.dflt RT.u32)), IntKind.wrap IntKind.u8 (List.getD l (Int.toNat (↑i : Int)) (RT.dflt RT.u32) / (256 : Int)), IntKind.wrap IntKind.u8 (List.getD l (Int.toNat (↑i : Int)) (RT.dflt RT.u32) / (65536 : Int)), List.getD l (Int.toNat (↑i : Int)) (RT.dflt RT.u32) / (16777216 : Int)] ≤ (137438953472 : Nat) ∧ (List.length (b ++ wordsB (List.take i l)) + List.length [IntKind.wrap IntKind.u8 (List.getD l (Int.toNat (↑i : Int)) (RT.dflt RT.u32)), IntKind.wrap IntKind.u8 (List.getD l (Int.toNat (↑i : Int)) (RT.dflt RT.u32) / (256 : Int)), IntKind.wrap IntKind.u8 (List.getD l (Int.toNat (↑i : Int)) (RT.dflt RT.u32) / (65536 : Int)), List.getD l (Int.toNat (↑i : Int)) (RT.dflt RT.u32) / (16777216 : Int)] ≤ (137438953472 : Nat) → i < List.length l ∧ True ∧ l = l ∧ l = l ∧ (↑(List.length l) : Int) = (↑(List.length l) : Int) ∧ (↑i : Int) + (1 : Int) = (↑(i + (1 : Nat)) : Int) ∧ ((0 : Int) ≤ (↑(i + (1 : Nat)) : Int) ∧ (↑(i + (1 : Nat)) : Int) ≤ (1000000 : Int)) ∧ b ++ wordsB (List.take i l) ++ [IntKind.wrap IntKind.u8 (List.getD l (Int.toNat (↑i : Int)) (RT.dflt RT.u32)), IntKind.wrap IntKind.u8 (List.getD l (Int.toNat (↑i : Int)) (RT.dflt RT.u32) / (256 : Int)), IntKind.wrap IntKind.u8 (List.getD l (Int.toNat (↑i : Int)) (RT.dflt RT.u32) / (65536 : Int)), List.getD l (Int.toNat (↑i : Int)) (RT.dflt RT.u32) / (16777216 : Int)] = b ++ wordsB (List.take (i + (1 : Nat)) l)))) ∧ (decide ((↑i : Int) < (↑(List.length l) : Int)) = false → Nat.beq (0 : Nat) (0 : Nat) = true ∧ b ++ wordsB (List.take i l) = b ++ wordsB l)) := by kernel_rfl
set_option maxHeartbeats 4000000 in
theorem lputs (b l : List Int) {W : World} {R own0 : Nat → Prop} {ρ0 : Nat → Option Value} (hown : HownOk (env (G7 ++ rest) []) own0 ρ0) : LOk Tryd.prog (env (G7 ++ rest) []) (ctx ea has) (G7 ++ rest) W R own0 ρ0 (loopN (bodyOf Tryd.f70) 0) (Lputs b l) := by
  refine loop1_ok (env_ok (con := []) trivial) hown (ls := fun i => []) (fun i => noSums (by kernel_rfl)) (fun hm i hi hj => (bputs rest b l i).mpr ?_) 0 (fun hm => by first | exact Nat.zero_le _ | omega) (fun hm => trivial)
  have d0 : RT.u32.dflt = (0 : Int) := rfl
  have hl := wordsB_len (l.take i)
  have hl2 : (l.take i).length ≤ i := by simp; omega
  simp only [d0, Int.toNat_natCast]
  refine ⟨fun h => ?_, fun h => ?_⟩
  · have h := of_decide_eq_true h
    have hlt : i < l.length := by omega
    have e : wordsB (l.take (i + 1)) = wordsB (l.take i) ++ wordB (l.getD i 0) := by
      have e1 : l.take (i + 1) = l.take i ++ [l.getD i 0] := by rw [List.take_add_one, List.getElem?_eq_getElem hlt]; simp [hlt]
      unfold wordsB
      rw [e1, List.flatMap_append]; simp
    refine ⟨by omega, fun _ => ⟨?_, fun _ => ⟨hlt, trivial, trivial, trivial, trivial, by omega, by omega, ?_⟩⟩⟩
    · rw [List.length_append, hl]; simp only [List.length_cons, List.length_nil]; omega
    · rw [e, ← List.append_assoc]; rfl
  · have h := of_decide_eq_false h
    exact ⟨rfl, by rw [List.take_of_length_le (by omega)]⟩
def kputs : List SVal → Nat → Acc ORes := fun a n => match a with
  | [.own q0, .ro .u32 l] => .look q0 fun cc => match cc with | some (.recs .u8 b) => (.ret (genR [] (gone [q0]) n (.own 0) ([(0, .recs .u8 (b ++ wordsB l))]) 1 (some (b.length ≤ 1000000 ∧ l.length ≤ 1000000)))) | _ => .fail "puts"
  | [.nilslice, .ro .u32 l] => .ret (genR [] (gone []) n (.own 0) ([(0, .recs .u8 ((nilR .u8) ++ wordsB l))]) 1 (some ((nilR .u8).length ≤ 1000000 ∧ l.length ≤ 1000000)))
  | _ => .fail "puts"
theorem fitputs (rest : List (Nat × SVal)) (b l : List Int) : (fits (envK (G7 ++ rest) [] 0) (S1 [.own 0, .ro .u32 l] (numC 0 [.recs .u8 b]) 1 29) (S1 [.own 0, .ro .u32 l] [(0, some (.recs .u8 b))] 1 29)) = (
  l = l ∧ b = b) := by kernel_rfl
theorem fitputs0 (rest : List (Nat × SVal)) (b l : List Int) : (fits (envK (G7 ++ rest) [] 0) (S1 [.nilslice, .ro .u32 l] [] 0 29) (S1 [.own 0, .ro .u32 l] [(0, some (.recs .u8 (nilR .u8)))] 1 29)) = (
  l = l ∧ nilR RT.u8 = @List.nil (RT.ty RT.u8)) := by kernel_rfl
theorem runputs (rest : List (Nat × SVal)) (b : List Int) (l : List Int) : (Tr.sat (newQ (envK (G7 ++ rest) [] 0) (.own 0) ([(0, .recs .u8 (b ++ wordsB l))]) (0 + 1)) (run (envK (G7 ++ rest) [] 0) [(2, Lputs b l)] (bodyOf Tryd.f70) (S1 [.own 0, .ro .u32 l] [(0, some (.recs .u8 b))] 1 29) (ends (envK (G7 ++ rest) [] 0) Tryd.f70.results.toList))) = (
  ((List.length b ≤ (1000000 : Nat) ∧ List.length l ≤ (1000000 : Nat)) ∧ l = l ∧ l = l ∧ (↑(List.length l) : Int) = (↑(List.length l) : Int) ∧ (0 : Int) = (↑(0 : Nat) : Int) ∧ b = b ++ wordsB (List.take (0 : Nat) l)) ∧ ((List.length b ≤ (1000000 : Nat) ∧ List.length l ≤ (1000000 : Nat)) ∧ l = l ∧ l = l ∧ (↑(List.length l) : Int) = (↑(List.length l) : Int) ∧ (0 : Int) = (↑(0 : Nat) : Int) ∧ b = b ++ wordsB (List.take (0 : Nat) l) → b ++ wordsB l = b ++ wordsB l)) := by kernel_rfl
set_option maxHeartbeats 4000000 in
theorem gputs (b : List Int) (l : List Int) (hv : b.length ≤ 1000000 ∧ l.length ≤ 1000000) : Box (Tr.sat (newQ (envK (G7 ++ rest) [] 0) (.own 0) ([(0, .recs .u8 (b ++ wordsB l))]) (0 + 1)) (run (envK (G7 ++ rest) [] 0) [(2, Lputs b l)] (bodyOf Tryd.f70) (S1 [.own 0, .ro .u32 l] [(0, some (.recs .u8 b))] 1 29) (ends (envK (G7 ++ rest) [] 0) Tryd.f70.results.toList))) := by
  refine .of (runputs rest b l) ?_
  exact ⟨⟨hv, rfl, rfl, rfl, rfl, by simp [wordsB]⟩, fun _ => rfl⟩
set_option maxHeartbeats 4000000 in
theorem cputs : Con ea has (G7 ++ rest) 70 kputs := by
  refine gen_mk Tryd.func70 29 0 (con := []) trivial (fun hA hr hv => ?_) (by kernel_rfl) (by kernel_rfl) Tryd.ntmps70
  unfold kputs at hr; split at hr
  · rename_i q0 l
    simp only [Acc.run] at hr
    split at hr
    · rename_i b hq0
      have := ret_ok hr; subst this
      refine ⟨[], [q0], [.recs .u8 b], [.own 0, .ro .u32 l], (S1 [.own 0, .ro .u32 l] [(0, some (.recs .u8 b))] 1 29), [(2, Lputs b l)], .own 0, [(0, .recs .u8 (b ++ wordsB l))], 1, rfl, rfl, ⟨rfl, rfl, rfl⟩, rfl, ⟨hq0, trivial⟩, rfl, rfl, .of (fitputs rest b l) (by simp [nilR]), rfl, (fun W R ρ0 own0 hown => hl1 (by kernel_rfl) (by kernel_rfl) (lputs b l hown)), gputs b l (hv _ rfl)⟩
    · cases hr
  · rename_i l
    have := ret_ok hr; subst this
    refine ⟨[], [], [], [.nilslice, .ro .u32 l], (S1 [.own 0, .ro .u32 l] [(0, some (.recs .u8 (nilR .u8)))] 1 29), [(2, Lputs (nilR .u8) l)], .own 0, [(0, .recs .u8 ((nilR .u8) ++ wordsB l))], 1, rfl, rfl, ⟨rfl, rfl, rfl⟩, rfl, trivial, rfl, rfl, .of (fitputs0 rest (nilR .u8) l) (by simp [nilR]), rfl, (fun W R ρ0 own0 hown => hl1 (by kernel_rfl) (by kernel_rfl) (lputs (nilR .u8) l hown)), gputs (nilR .u8) l (hv _ rfl)⟩
  · cases hr
abbrev kputsF := frz [.any, .ro .u32] kputs
theorem cputsF : Con ea has (G7 ++ rest) 70 kputsF := frz_ok cputs _
def relB (r : Rel) : List Int := wordsB [IntKind.u32.wrap r.at_, IntKind.u32.wrap r.kind, IntKind.u32.wrap r.sym, IntKind.u32.wrap r.add]
def symB (s : Sm) : List Int := wordsB [IntKind.u32.wrap s.in_, IntKind.u32.wrap s.value, if s.global = true then 1 else 0, IntKind.u32.wrap (s.name.size : Nat)] ++ bytesL s.name
def lensL (d c : List Int) (dr cr : List Rel) (sy : List Sm) : List Int := [(d.length : Nat), (c.length : Nat), (dr.length : Nat), (cr.length : Nat), (sy.length : Nat)]
def headB (L : List Int) : List Int := wordsB [842225232] ++ wordsB (L.map IntKind.u32.wrap)
def bodyB (d c m : List Int) (dr cr : List Rel) (sy : List Sm) : List Int := headB (lensL d c dr cr sy) ++ wordsB d ++ wordsB c ++ m
def relsB (l : List Rel) : List Int := l.flatMap relB
def symsB (l : List Sm) : List Int := l.flatMap symB
def bytesO (d c m : List Int) (dr cr : List Rel) (sy : List Sm) : List Int := bodyB d c m dr cr sy ++ relsB dr ++ relsB cr ++ symsB sy
theorem relB_len (r : Rel) : (relB r).length = 16 := by unfold relB; rw [wordsB_len]; rfl
theorem relsB_len (l : List Rel) : (relsB l).length = 16 * l.length := by
  unfold relsB
  induction l with
  | nil => rfl
  | cons a l ih => rw [List.flatMap_cons, List.length_append, ih, relB_len]; simp; omega
theorem symB_len (s : Sm) : (symB s).length = 16 + s.name.size := by
  unfold symB; rw [List.length_append, wordsB_len]; simp [bytesL]
theorem symsB_len (l : List Sm) (h : ∀ s ∈ l, s.name.size ≤ 32) : (symsB l).length ≤ 48 * l.length := by
  unfold symsB
  induction l with
  | nil => simp
  | cons a l ih =>
    have := ih fun s hs => h s (List.mem_cons_of_mem _ hs)
    have := h a (List.mem_cons_self ..)
    rw [List.flatMap_cons, List.length_append, symB_len, List.length_cons]; omega
def okSer (d c m : List Int) (dr cr : List Rel) (sy : List Sm) : Prop := d.length ≤ 2048 ∧ c.length ≤ 2048 ∧ m.length ≤ 2048 ∧ dr.length ≤ 1024 ∧ cr.length ≤ 1024 ∧ sy.length ≤ 256 ∧ ∀ s ∈ sy, s.name.size ≤ 32
theorem headB_len (L : List Int) : (headB L).length = 4 + 4 * L.length := by unfold headB; rw [List.length_append, wordsB_len, wordsB_len]; simp
theorem bodyB_len (d c m : List Int) (dr cr : List Rel) (sy : List Sm) : (bodyB d c m dr cr sy).length = 24 + 4 * d.length + 4 * c.length + m.length := by
  unfold bodyB; simp only [List.length_append, headB_len, wordsB_len]; simp [lensL]
abbrev obBox (d c m : List Int) (dr cr : List Rel) (sy : List Sm) : Option Cont := some (.cells [.ro .u32 d, .ro .u32 c, .ro .u8 m, .ro .rel dr, .ro .rel cr, .ro .sym sy])
theorem take_getD {α : Type} (l : List α) (d : α) {i : Nat} (h : i < l.length) : l.take (i + 1) = l.take i ++ [l.getD i d] := by rw [List.take_add_one, List.getElem?_eq_getElem h]; simp [h]
def HbytA (d c m : List Int) (dr cr : List Rel) (sy : List Sm) (i : Nat) : SState := { fr := [(1, .ptr 0 0), (5, .own 1), (37, .ro .i64 (lensL d c dr cr sy)), (38, .int .i64 (.lit 5)), (39, .int .i64 (.sym i 0 5))], hp := [(0, obBox d c m dr cr sy), (1, some (.recs .u8 (headB ((lensL d c dr cr sy).take i))))], next := 2, sz := 122 }
def XbytA (d c m : List Int) (dr cr : List Rel) (sy : List Sm) : SState := { fr := [(1, .ptr 0 0), (5, .own 1)], hp := [(0, obBox d c m dr cr sy), (1, some (.recs .u8 (headB (lensL d c dr cr sy))))], next := 2, sz := 122 }
def LbytA (d c m : List Int) (dr cr : List Rel) (sy : List Sm) : LSum := ⟨HbytA d c m dr cr sy 0, fun k => k (.exit 0) (XbytA d c m dr cr sy), okSer d c m dr cr sy⟩
theorem bbytA (rest : List (Nat × SVal)) (d c m : List Int) (dr cr : List Rel) (sy : List Sm) (i : Nat) : (Tr.sat (rnd1 (env (G7 ++ rest) [(31, kValid), (70, kputsF)]) (fun _ => True) (5) (HbytA d c m dr cr sy) 0 (XbytA d c m dr cr sy) i) (run (env (G7 ++ rest) [(31, kValid), (70, kputsF)]) [] (loopN (bodyOf Tryd.f30) 0) (HbytA d c m dr cr sy i) .leaf)) = (
  (decide ((↑i : Int) < (5 : Int)) = true → ((0 : Int) ≤ (↑i : Int) ∧ (↑i : Int) < (↑(List.length (lensL d c dr cr sy)) : Int)) ∧ ((0 : Int) ≤ (↑i : Int) ∧ (↑i : Int) < (↑(List.length (lensL d c dr cr sy)) : Int) → (List.length (headB (List.take i (lensL d c dr cr sy))) ≤ (1000000 : Nat) ∧ List.length [IntKind.wrap IntKind.u32 (List.getD (lensL d c dr cr sy) (Int.toNat (↑i : Int)) (RT.dflt RT.i64))] ≤ (1000000 : Nat)) ∧ (List.length (headB (List.take i (lensL d c dr cr sy))) ≤ (1000000 : Nat) ∧ List.length [IntKind.wrap IntKind.u32 (List.getD (lensL d c dr cr sy) (Int.toNat (↑i : Int)) (RT.dflt RT.i64))] ≤ (1000000 : Nat) → i < (5 : Nat) ∧ True ∧ lensL d c dr cr sy = lensL d c dr cr sy ∧ (5 : Int) = (5 : Int) ∧ (↑i : Int) + (1 : Int) = (↑(i + (1 : Nat)) : Int) ∧ ((0 : Int) ≤ (↑(i + (1 : Nat)) : Int) ∧ (↑(i + (1 : Nat)) : Int) ≤ (5 : Int)) ∧ d = d ∧ c = c ∧ m = m ∧ dr = dr ∧ cr = cr ∧ sy = sy ∧ headB (List.take i (lensL d c dr cr sy)) ++ wordsB [IntKind.wrap IntKind.u32 (List.getD (lensL d c dr cr sy) (Int.toNat (↑i : Int)) (RT.dflt RT.i64))] = headB (List.take (i + (1 : Nat)) (lensL d c dr cr sy))))) ∧ (decide ((↑i : Int) < (5 : Int)) = false → Nat.beq (0 : Nat) (0 : Nat) = true ∧ d = d ∧ c = c ∧ m = m ∧ dr = dr ∧ cr = cr ∧ sy = sy ∧ headB (List.take i (lensL d c dr cr sy)) = headB (lensL d c dr cr sy))) := by kernel_rfl
set_option maxHeartbeats 4000000 in
theorem lbytA (d c m : List Int) (dr cr : List Rel) (sy : List Sm) {W : World} {R own0 : Nat → Prop} {ρ0 : Nat → Option Value} (hown : HownOk (env (G7 ++ rest) [(31, kValid), (70, kputsF)]) own0 ρ0) : LOk Tryd.prog (env (G7 ++ rest) [(31, kValid), (70, kputsF)]) (ctx ea has) (G7 ++ rest) W R own0 ρ0 (loopN (bodyOf Tryd.f30) 0) (LbytA d c m dr cr sy) := by
  refine loop1_ok (env_ok (con := [(31, kValid), (70, kputsF)]) ⟨cValid, cputsF, trivial⟩) hown (ls := fun i => []) (fun i => noSums (by kernel_rfl)) (fun hm i hi hj => (bbytA rest d c m dr cr sy i).mpr ?_) 0 (fun hm => by first | exact Nat.zero_le _ | omega) (fun hm => trivial)
  have d0 : RT.i64.dflt = (0 : Int) := rfl
  have hL : (lensL d c dr cr sy).length = 5 := rfl
  have h1 := headB_len ((lensL d c dr cr sy).take i)
  have h2 : ((lensL d c dr cr sy).take i).length ≤ i := by simp; omega
  simp only [d0, Int.toNat_natCast, hL, eq_self, true_and, and_true]
  refine ⟨fun h => ?_, fun h => ?_⟩
  · have h := of_decide_eq_true h
    have hlt : i < 5 := by omega
    have e := take_getD (lensL d c dr cr sy) 0 (i := i) (by omega)
    refine ⟨by omega, fun _ => ⟨⟨by omega, by simp⟩, fun _ => ⟨hlt, by omega, by omega, ?_⟩⟩⟩
    rw [e]
    unfold headB
    rw [List.map_append, List.append_assoc]
    unfold wordsB
    simp
  · have h := of_decide_eq_false h
    exact ⟨rfl, by rw [List.take_of_length_le (by omega)]⟩
def HbytC (d c m : List Int) (dr cr : List Rel) (sy : List Sm) (b : List Int) (l : List Rel) (o : Nat) (i : Nat) : SState := { fr := [(1, .ptr 0 0), (5, .own 1), (64, .own 2), (65, .int .i64 (.lit 2)), (66, .int .i64 (.lit o)), (70, .ro .rel l), (71, .int .i64 (.full l.length)), (72, .int .i64 (.sym i 0 1024))], hp := [(0, obBox d c m dr cr sy), (1, some (.recs .u8 (b ++ relsB (l.take i)))), (2, some (.row 1 [.ro .rel dr, .ro .rel cr]))], next := 3, sz := 122 }
def XbytC (d c m : List Int) (dr cr : List Rel) (sy : List Sm) (b : List Int) (l : List Rel) (o : Nat) : SState := { fr := [(1, .ptr 0 0), (5, .own 1), (64, .own 2), (65, .int .i64 (.lit 2)), (66, .int .i64 (.lit o))], hp := [(0, obBox d c m dr cr sy), (1, some (.recs .u8 (b ++ relsB l))), (2, some (.row 1 [.ro .rel dr, .ro .rel cr]))], next := 3, sz := 122 }
def LbytC (d c m : List Int) (dr cr : List Rel) (sy : List Sm) (b : List Int) (l : List Rel) (o : Nat) : LSum := ⟨HbytC d c m dr cr sy b l o 0, fun k => k (.exit 4) (XbytC d c m dr cr sy b l o), b.length ≤ 100000 ∧ l.length ≤ 1024⟩
theorem bbytC (rest : List (Nat × SVal)) (d c m : List Int) (dr cr : List Rel) (sy : List Sm) (b : List Int) (l : List Rel) (o : Nat) (i : Nat) : (Tr.sat (rnd1 (env (G7 ++ rest) [(31, kValid), (70, kputsF)]) (fun _ => True) (l.length) (HbytC d c m dr cr sy b l o) 4 (XbytC d c m dr cr sy b l o) i) (run (env (G7 ++ rest) [(31, kValid), (70, kputsF)]) [] (loopN (loopN (bodyOf Tryd.f30) 1) 0) (HbytC d c m dr cr sy b l o i) .leaf)) = (
  (decide ((↑i : Int) < (↑(List.length l) : Int)) = true → ((0 : Int) ≤ (↑i : Int) ∧ (↑i : Int) < (↑(List.length l) : Int)) ∧ ((0 : Int) ≤ (↑i : Int) ∧ (↑i : Int) < (↑(List.length l) : Int) → (List.length (b ++ relsB (List.take i l)) ≤ (1000000 : Nat) ∧ List.length [IntKind.wrap IntKind.u32 (List.getD l (Int.toNat (↑i : Int)) (RT.dflt RT.rel)).at_, IntKind.wrap IntKind.u32 (List.getD l (Int.toNat (↑i : Int)) (RT.dflt RT.rel)).kind, IntKind.wrap IntKind.u32 (List.getD l (Int.toNat (↑i : Int)) (RT.dflt RT.rel)).sym, IntKind.wrap IntKind.u32 (List.getD l (Int.toNat (↑i : Int)) (RT.dflt RT.rel)).add] ≤ (1000000 : Nat)) ∧ (List.length (b ++ relsB (List.take i l)) ≤ (1000000 : Nat) ∧ List.length [IntKind.wrap IntKind.u32 (List.getD l (Int.toNat (↑i : Int)) (RT.dflt RT.rel)).at_, IntKind.wrap IntKind.u32 (List.getD l (Int.toNat (↑i : Int)) (RT.dflt RT.rel)).kind, IntKind.wrap IntKind.u32 (List.getD l (Int.toNat (↑i : Int)) (RT.dflt RT.rel)).sym, IntKind.wrap IntKind.u32 (List.getD l (Int.toNat (↑i : Int)) (RT.dflt RT.rel)).add] ≤ (1000000 : Nat) → i < List.length l ∧ True ∧ (2 : Int) = (2 : Int) ∧ (↑o : Int) = (↑o : Int) ∧ l = l ∧ (↑(List.length l) : Int) = (↑(List.length l) : Int) ∧ (↑i : Int) + (1 : Int) = (↑(i + (1 : Nat)) : Int) ∧ ((0 : Int) ≤ (↑(i + (1 : Nat)) : Int) ∧ (↑(i + (1 : Nat)) : Int) ≤ (1024 : Int)) ∧ d = d ∧ c = c ∧ m = m ∧ dr = dr ∧ cr = cr ∧ sy = sy ∧ b ++ relsB (List.take i l) ++ wordsB [IntKind.wrap IntKind.u32 (List.getD l (Int.toNat (↑i : Int)) (RT.dflt RT.rel)).at_, IntKind.wrap IntKind.u32 (List.getD l (Int.toNat (↑i : Int)) (RT.dflt RT.rel)).kind, IntKind.wrap IntKind.u32 (List.getD l (Int.toNat (↑i : Int)) (RT.dflt RT.rel)).sym, IntKind.wrap IntKind.u32 (List.getD l (Int.toNat (↑i : Int)) (RT.dflt RT.rel)).add] = b ++ relsB (List.take (i + (1 : Nat)) l) ∧ dr = dr ∧ cr = cr))) ∧ (decide ((↑i : Int) < (↑(List.length l) : Int)) = false → Nat.beq (4 : Nat) (4 : Nat) = true ∧ (2 : Int) = (2 : Int) ∧ (↑o : Int) = (↑o : Int) ∧ d = d ∧ c = c ∧ m = m ∧ dr = dr ∧ cr = cr ∧ sy = sy ∧ b ++ relsB (List.take i l) = b ++ relsB l ∧ dr = dr ∧ cr = cr)) := by kernel_rfl
set_option maxHeartbeats 4000000 in
theorem lbytC (d c m : List Int) (dr cr : List Rel) (sy : List Sm) (b : List Int) (l : List Rel) (o : Nat) {W : World} {R own0 : Nat → Prop} {ρ0 : Nat → Option Value} (hown : HownOk (env (G7 ++ rest) [(31, kValid), (70, kputsF)]) own0 ρ0) : LOk Tryd.prog (env (G7 ++ rest) [(31, kValid), (70, kputsF)]) (ctx ea has) (G7 ++ rest) W R own0 ρ0 (loopN (loopN (bodyOf Tryd.f30) 1) 0) (LbytC d c m dr cr sy b l o) := by
  refine loop1_ok (env_ok (con := [(31, kValid), (70, kputsF)]) ⟨cValid, cputsF, trivial⟩) hown (ls := fun i => []) (fun i => noSums (by kernel_rfl)) (fun hm i hi hj => (bbytC rest d c m dr cr sy b l o i).mpr ?_) 0 (fun hm => by first | exact Nat.zero_le _ | omega) (fun hm => trivial)
  have h1 := relsB_len (l.take i)
  have h2 : (l.take i).length ≤ i := by simp; omega
  simp only [Int.toNat_natCast, eq_self, true_and, and_true]
  refine ⟨fun h => ?_, fun h => ?_⟩
  · have h := of_decide_eq_true h
    have hlt : i < l.length := by omega
    have e := take_getD l RT.rel.dflt hlt
    refine ⟨by omega, fun _ => ⟨⟨by rw [List.length_append, h1]; omega, by simp⟩, fun _ => ⟨hlt, by omega, by omega, ?_⟩⟩⟩
    rw [e]
    unfold relsB
    rw [List.flatMap_append, List.append_assoc]
    simp [relB]
  · have h := of_decide_eq_false h
    exact ⟨rfl, by rw [List.take_of_length_le (by omega)]⟩
def HbytD (b : List Int) (sy : List Sm) (i : Nat) : SState := { fr := [(5, .own 0), (94, .ro .sym sy), (95, .int .i64 (.full sy.length)), (96, .int .i64 (.sym i 0 256))], hp := [(0, some (.recs .u8 (b ++ symsB (sy.take i))))], next := 1, sz := 122 }
def XbytD (b : List Int) (sy : List Sm) : SState := { fr := [(5, .own 0)], hp := [(0, some (.recs .u8 (b ++ symsB sy)))], next := 1, sz := 122 }
def LbytD (b : List Int) (sy : List Sm) : LSum := ⟨HbytD b sy 0, fun k => k (.exit 6) (XbytD b sy), b.length ≤ 100000 ∧ sy.length ≤ 256 ∧ ∀ s ∈ sy, s.name.size ≤ 32⟩
theorem bbytD (rest : List (Nat × SVal)) (b : List Int) (sy : List Sm) (i : Nat) : (Tr.sat (rnd1 (env (G7 ++ rest) [(31, kValid), (70, kputsF)]) (fun _ => True) (sy.length) (HbytD b sy) 6 (XbytD b sy) i) (run (env (G7 ++ rest) [(31, kValid), (70, kputsF)]) [] (loopN (bodyOf Tryd.f30) 2) (HbytD b sy i) .leaf)) = (
  (decide ((↑i : Int) < (↑(List.length sy) : Int)) = true → ((0 : Int) ≤ (↑i : Int) ∧ (↑i : Int) < (↑(List.length sy) : Int)) ∧ ((0 : Int) ≤ (↑i : Int) ∧ (↑i : Int) < (↑(List.length sy) : Int) → ((List.getD sy (Int.toNat (↑i : Int)) (RT.dflt RT.sym)).global = true → (List.length (b ++ symsB (List.take i sy)) ≤ (1000000 : Nat) ∧ List.length [IntKind.wrap IntKind.u32 (List.getD sy (Int.toNat (↑i : Int)) (RT.dflt RT.sym)).in_, IntKind.wrap IntKind.u32 (List.getD sy (Int.toNat (↑i : Int)) (RT.dflt RT.sym)).value, (1 : Int), IntKind.wrap IntKind.u32 (↑(ByteArray.size (List.getD sy (Int.toNat (↑i : Int)) (RT.dflt RT.sym)).name) : Int)] ≤ (1000000 : Nat)) ∧ (List.length (b ++ symsB (List.take i sy)) ≤ (1000000 : Nat) ∧ List.length [IntKind.wrap IntKind.u32 (List.getD sy (Int.toNat (↑i : Int)) (RT.dflt RT.sym)).in_, IntKind.wrap IntKind.u32 (List.getD sy (Int.toNat (↑i : Int)) (RT.dflt RT.sym)).value, (1 : Int), IntKind.wrap IntKind.u32 (↑(ByteArray.size (List.getD sy (Int.toNat (↑i : Int)) (RT.dflt RT.sym)).name) : Int)] ≤ (1000000 : Nat) → List.length (b ++ symsB (List.take i sy) ++ wordsB [IntKind.wrap IntKind.u32 (List.getD sy (Int.toNat (↑i : Int)) (RT.dflt RT.sym)).in_, IntKind.wrap IntKind.u32 (List.getD sy (Int.toNat (↑i : Int)) (RT.dflt RT.sym)).value, (1 : Int), IntKind.wrap IntKind.u32 (↑(ByteArray.size (List.getD sy (Int.toNat (↑i : Int)) (RT.dflt RT.sym)).name) : Int)]) + ByteArray.size (List.getD sy (Int.toNat (↑i : Int)) (RT.dflt RT.sym)).name ≤ (137438953472 : Nat) ∧ (List.length (b ++ symsB (List.take i sy) ++ wordsB [IntKind.wrap IntKind.u32 (List.getD sy (Int.toNat (↑i : Int)) (RT.dflt RT.sym)).in_, IntKind.wrap IntKind.u32 (List.getD sy (Int.toNat (↑i : Int)) (RT.dflt RT.sym)).value, (1 : Int), IntKind.wrap IntKind.u32 (↑(ByteArray.size (List.getD sy (Int.toNat (↑i : Int)) (RT.dflt RT.sym)).name) : Int)]) + ByteArray.size (List.getD sy (Int.toNat (↑i : Int)) (RT.dflt RT.sym)).name ≤ (137438953472 : Nat) → i < List.length sy ∧ True ∧ sy = sy ∧ (↑(List.length sy) : Int) = (↑(List.length sy) : Int) ∧ (↑i : Int) + (1 : Int) = (↑(i + (1 : Nat)) : Int) ∧ ((0 : Int) ≤ (↑(i + (1 : Nat)) : Int) ∧ (↑(i + (1 : Nat)) : Int) ≤ (256 : Int)) ∧ b ++ symsB (List.take i sy) ++ wordsB [IntKind.wrap IntKind.u32 (List.getD sy (Int.toNat (↑i : Int)) (RT.dflt RT.sym)).in_, IntKind.wrap IntKind.u32 (List.getD sy (Int.toNat (↑i : Int)) (RT.dflt RT.sym)).value, (1 : Int), IntKind.wrap IntKind.u32 (↑(ByteArray.size (List.getD sy (Int.toNat (↑i : Int)) (RT.dflt RT.sym)).name) : Int)] ++ bytesL (List.getD sy (Int.toNat (↑i : Int)) (RT.dflt RT.sym)).name = b ++ symsB (List.take (i + (1 : Nat)) sy)))) ∧ ((List.getD sy (Int.toNat (↑i : Int)) (RT.dflt RT.sym)).global = false → (List.length (b ++ symsB (List.take i sy)) ≤ (1000000 : Nat) ∧ List.length [IntKind.wrap IntKind.u32 (List.getD sy (Int.toNat (↑i : Int)) (RT.dflt RT.sym)).in_, IntKind.wrap IntKind.u32 (List.getD sy (Int.toNat (↑i : Int)) (RT.dflt RT.sym)).value, (0 : Int), IntKind.wrap IntKind.u32 (↑(ByteArray.size (List.getD sy (Int.toNat (↑i : Int)) (RT.dflt RT.sym)).name) : Int)] ≤ (1000000 : Nat)) ∧ (List.length (b ++ symsB (List.take i sy)) ≤ (1000000 : Nat) ∧ List.length [IntKind.wrap IntKind.u32 (List.getD sy (Int.toNat (↑i : Int)) (RT.dflt RT.sym)).in_, IntKind.wrap IntKind.u32 (List.getD sy (Int.toNat (↑i : Int)) (RT.dflt RT.sym)).value, (0 : Int), IntKind.wrap IntKind.u32 (↑(ByteArray.size (List.getD sy (Int.toNat (↑i : Int)) (RT.dflt RT.sym)).name) : Int)] ≤ (1000000 : Nat) → List.length (b ++ symsB (List.take i sy) ++ wordsB [IntKind.wrap IntKind.u32 (List.getD sy (Int.toNat (↑i : Int)) (RT.dflt RT.sym)).in_, IntKind.wrap IntKind.u32 (List.getD sy (Int.toNat (↑i : Int)) (RT.dflt RT.sym)).value, (0 : Int), IntKind.wrap IntKind.u32 (↑(ByteArray.size (List.getD sy (Int.toNat (↑i : Int)) (RT.dflt RT.sym)).name) : Int)]) + ByteArray.size (List.getD sy (Int.toNat (↑i : Int)) (RT.dflt RT.sym)).name ≤ (137438953472 : Nat) ∧ (List.length (b ++ symsB (List.take i sy) ++ wordsB [IntKind.wrap IntKind.u32 (List.getD sy (Int.toNat (↑i : Int)) (RT.dflt RT.sym)).in_, IntKind.wrap IntKind.u32 (List.getD sy (Int.toNat (↑i : Int)) (RT.dflt RT.sym)).value, (0 : Int), IntKind.wrap IntKind.u32 (↑(ByteArray.size (List.getD sy (Int.toNat (↑i : Int)) (RT.dflt RT.sym)).name) : Int)]) + ByteArray.size (List.getD sy (Int.toNat (↑i : Int)) (RT.dflt RT.sym)).name ≤ (137438953472 : Nat) → i < List.length sy ∧ True ∧ sy = sy ∧ (↑(List.length sy) : Int) = (↑(List.length sy) : Int) ∧ (↑i : Int) + (1 : Int) = (↑(i + (1 : Nat)) : Int) ∧ ((0 : Int) ≤ (↑(i + (1 : Nat)) : Int) ∧ (↑(i + (1 : Nat)) : Int) ≤ (256 : Int)) ∧ b ++ symsB (List.take i sy) ++ wordsB [IntKind.wrap IntKind.u32 (List.getD sy (Int.toNat (↑i : Int)) (RT.dflt RT.sym)).in_, IntKind.wrap IntKind.u32 (List.getD sy (Int.toNat (↑i : Int)) (RT.dflt RT.sym)).value, (0 : Int), IntKind.wrap IntKind.u32 (↑(ByteArray.size (List.getD sy (Int.toNat (↑i : Int)) (RT.dflt RT.sym)).name) : Int)] ++ bytesL (List.getD sy (Int.toNat (↑i : Int)) (RT.dflt RT.sym)).name = b ++ symsB (List.take (i + (1 : Nat)) sy)))))) ∧ (decide ((↑i : Int) < (↑(List.length sy) : Int)) = false → Nat.beq (6 : Nat) (6 : Nat) = true ∧ b ++ symsB (List.take i sy) = b ++ symsB sy)) := by kernel_rfl
set_option maxHeartbeats 4000000 in
theorem lbytD (b : List Int) (sy : List Sm) {W : World} {R own0 : Nat → Prop} {ρ0 : Nat → Option Value} (hown : HownOk (env (G7 ++ rest) [(31, kValid), (70, kputsF)]) own0 ρ0) : LOk Tryd.prog (env (G7 ++ rest) [(31, kValid), (70, kputsF)]) (ctx ea has) (G7 ++ rest) W R own0 ρ0 (loopN (bodyOf Tryd.f30) 2) (LbytD b sy) := by
  refine loop1_ok (env_ok (con := [(31, kValid), (70, kputsF)]) ⟨cValid, cputsF, trivial⟩) hown (ls := fun i => []) (fun i => noSums (by kernel_rfl)) (fun hm i hi hj => (bbytD rest b sy i).mpr ?_) 0 (fun hm => by first | exact Nat.zero_le _ | omega) (fun hm => trivial)
  obtain ⟨m1, m2, m3⟩ := hm
  have h1 := symsB_len (sy.take i) fun s hs => m3 s (List.mem_of_mem_take hs)
  have h2 : (sy.take i).length ≤ i := by simp; omega
  simp only [Int.toNat_natCast]
  refine ⟨fun h => ?_, fun h => ?_⟩
  · have h := of_decide_eq_true h
    have hlt : i < sy.length := by omega
    have e := take_getD sy RT.sym.dflt hlt
    have hs : (sy.getD i RT.sym.dflt).name.size ≤ 32 := by
      rw [List.getD_eq_getElem?_getD, List.getElem?_eq_getElem hlt]; exact m3 _ (List.getElem_mem hlt)
    have e2 : symsB (sy.take (i + 1)) = symsB (sy.take i) ++ symB (sy.getD i RT.sym.dflt) := by
      rw [e]; unfold symsB; rw [List.flatMap_append]; simp
    rw [e2]
    generalize sy.getD i RT.sym.dflt = x at *
    refine ⟨by omega, fun _ => ⟨fun g => ?_, fun g => ?_⟩⟩
    · have e3 : symB x = wordsB [IntKind.u32.wrap x.in_, IntKind.u32.wrap x.value, 1, IntKind.u32.wrap (x.name.size : Nat)] ++ bytesL x.name := by unfold symB; rw [if_pos g]
      refine ⟨⟨by rw [List.length_append]; omega, by simp⟩, fun _ => ⟨by simp only [List.length_append, wordsB_len, List.length_cons, List.length_nil]; omega, fun _ => ⟨hlt, trivial, trivial, trivial, by omega, by omega, ?_⟩⟩⟩
      rw [e3]; simp only [List.append_assoc]
    · have e3 : symB x = wordsB [IntKind.u32.wrap x.in_, IntKind.u32.wrap x.value, 0, IntKind.u32.wrap (x.name.size : Nat)] ++ bytesL x.name := by unfold symB; rw [g]; rfl
      refine ⟨⟨by rw [List.length_append]; omega, by simp⟩, fun _ => ⟨by simp only [List.length_append, wordsB_len, List.length_cons, List.length_nil]; omega, fun _ => ⟨hlt, trivial, trivial, trivial, by omega, by omega, ?_⟩⟩⟩
      rw [e3]; simp only [List.append_assoc]
  · have h := of_decide_eq_false h
    exact ⟨rfl, by rw [List.take_of_length_le (by omega)]⟩
def relI (dr cr : List Rel) : Nat → List Rel
  | 0 => dr
  | _ => cr
def preI (d c m : List Int) (dr cr : List Rel) (sy : List Sm) : Nat → List Int
  | 0 => bodyB d c m dr cr sy
  | 1 => bodyB d c m dr cr sy ++ relsB dr
  | _ => bodyB d c m dr cr sy ++ relsB dr ++ relsB cr
theorem preI_len {d c m : List Int} {dr cr : List Rel} {sy : List Sm} (h : okSer d c m dr cr sy) : ∀ i, (preI d c m dr cr sy i).length ≤ 100000 := by
  obtain ⟨h1, h2, h3, h4, h5, h6, h7⟩ := h
  have := bodyB_len d c m dr cr sy
  have e1 := relsB_len dr
  have e2 := relsB_len cr
  intro i
  unfold preI
  split <;> (try simp only [List.length_append]) <;> omega
theorem relI_len {d c m : List Int} {dr cr : List Rel} {sy : List Sm} (h : okSer d c m dr cr sy) : ∀ i, (relI dr cr i).length ≤ 1024 := by
  obtain ⟨h1, h2, h3, h4, h5, h6, h7⟩ := h
  intro i
  unfold relI
  split <;> omega
def HbytB (d c m : List Int) (dr cr : List Rel) (sy : List Sm) (i : Nat) : SState := { fr := [(1, .ptr 0 0), (5, .own 1), (64, .own 2), (65, .int .i64 (.lit 2)), (66, .int .i64 (.lit i))], hp := [(0, obBox d c m dr cr sy), (1, some (.recs .u8 (preI d c m dr cr sy i))), (2, some (.row 1 [.ro .rel dr, .ro .rel cr]))], next := 3, sz := 122 }
def XbytB (d c m : List Int) (dr cr : List Rel) (sy : List Sm) : SState := { fr := [(1, .ptr 0 0), (5, .own 1)], hp := [(0, obBox d c m dr cr sy), (1, some (.recs .u8 (preI d c m dr cr sy 2)))], next := 2, sz := 122 }
def LbytB (d c m : List Int) (dr cr : List Rel) (sy : List Sm) : LSum := ⟨HbytB d c m dr cr sy 0, fun k => k (.exit 2) (XbytB d c m dr cr sy), okSer d c m dr cr sy⟩
theorem bbytB_0 (rest : List (Nat × SVal)) (d c m : List Int) (dr cr : List Rel) (sy : List Sm) : (Tr.sat (rnd1 (env (G7 ++ rest) [(31, kValid), (70, kputsF)]) (fun _ => True) (2) (HbytB d c m dr cr sy) 2 (XbytB d c m dr cr sy) 0) (run (env (G7 ++ rest) [(31, kValid), (70, kputsF)]) ((fun i : Nat => [(16, LbytC d c m dr cr sy (preI d c m dr cr sy i) (relI dr cr i) i)]) 0) (loopN (bodyOf Tryd.f30) 1) (HbytB d c m dr cr sy 0) .leaf)) = (
  (0 : Nat) * (1 : Nat) + (1 : Nat) ≤ sumW [SVal.ro RT.rel dr, SVal.ro RT.rel cr] ∧ ((0 : Nat) * (1 : Nat) + (1 : Nat) ≤ sumW [SVal.ro RT.rel dr, SVal.ro RT.rel cr] → ((List.length (preI d c m dr cr sy (0 : Nat)) ≤ (100000 : Nat) ∧ List.length (relI dr cr (0 : Nat)) ≤ (1024 : Nat)) ∧ (2 : Int) = (2 : Int) ∧ (0 : Int) = (↑(0 : Nat) : Int) ∧ dr = relI dr cr (0 : Nat) ∧ (↑(List.length dr) : Int) = (↑(List.length (relI dr cr (0 : Nat))) : Int) ∧ (0 : Int) = (↑(0 : Nat) : Int) ∧ d = d ∧ c = c ∧ m = m ∧ dr = dr ∧ cr = cr ∧ sy = sy ∧ preI d c m dr cr sy (0 : Nat) = preI d c m dr cr sy (0 : Nat) ++ relsB (List.take (0 : Nat) (relI dr cr (0 : Nat))) ∧ dr = dr ∧ cr = cr) ∧ ((List.length (preI d c m dr cr sy (0 : Nat)) ≤ (100000 : Nat) ∧ List.length (relI dr cr (0 : Nat)) ≤ (1024 : Nat)) ∧ (2 : Int) = (2 : Int) ∧ (0 : Int) = (↑(0 : Nat) : Int) ∧ dr = relI dr cr (0 : Nat) ∧ (↑(List.length dr) : Int) = (↑(List.length (relI dr cr (0 : Nat))) : Int) ∧ (0 : Int) = (↑(0 : Nat) : Int) ∧ d = d ∧ c = c ∧ m = m ∧ dr = dr ∧ cr = cr ∧ sy = sy ∧ preI d c m dr cr sy (0 : Nat) = preI d c m dr cr sy (0 : Nat) ++ relsB (List.take (0 : Nat) (relI dr cr (0 : Nat))) ∧ dr = dr ∧ cr = cr → (0 : Nat) < (2 : Nat) ∧ True ∧ (2 : Int) = (2 : Int) ∧ (1 : Int) = (↑((0 : Nat) + (1 : Nat)) : Int) ∧ d = d ∧ c = c ∧ m = m ∧ dr = dr ∧ cr = cr ∧ sy = sy ∧ preI d c m dr cr sy (0 : Nat) ++ relsB (relI dr cr (0 : Nat)) = preI d c m dr cr sy ((0 : Nat) + (1 : Nat)) ∧ dr = dr ∧ cr = cr))) := by kernel_rfl
theorem bbytB_1 (rest : List (Nat × SVal)) (d c m : List Int) (dr cr : List Rel) (sy : List Sm) : (Tr.sat (rnd1 (env (G7 ++ rest) [(31, kValid), (70, kputsF)]) (fun _ => True) (2) (HbytB d c m dr cr sy) 2 (XbytB d c m dr cr sy) 1) (run (env (G7 ++ rest) [(31, kValid), (70, kputsF)]) ((fun i : Nat => [(16, LbytC d c m dr cr sy (preI d c m dr cr sy i) (relI dr cr i) i)]) 1) (loopN (bodyOf Tryd.f30) 1) (HbytB d c m dr cr sy 1) .leaf)) = (
  (1 : Nat) * (1 : Nat) + (1 : Nat) ≤ sumW [SVal.ro RT.rel dr, SVal.ro RT.rel cr] ∧ ((1 : Nat) * (1 : Nat) + (1 : Nat) ≤ sumW [SVal.ro RT.rel dr, SVal.ro RT.rel cr] → ((List.length (preI d c m dr cr sy (1 : Nat)) ≤ (100000 : Nat) ∧ List.length (relI dr cr (1 : Nat)) ≤ (1024 : Nat)) ∧ (2 : Int) = (2 : Int) ∧ (1 : Int) = (↑(1 : Nat) : Int) ∧ cr = relI dr cr (1 : Nat) ∧ (↑(List.length cr) : Int) = (↑(List.length (relI dr cr (1 : Nat))) : Int) ∧ (0 : Int) = (↑(0 : Nat) : Int) ∧ d = d ∧ c = c ∧ m = m ∧ dr = dr ∧ cr = cr ∧ sy = sy ∧ preI d c m dr cr sy (1 : Nat) = preI d c m dr cr sy (1 : Nat) ++ relsB (List.take (0 : Nat) (relI dr cr (1 : Nat))) ∧ dr = dr ∧ cr = cr) ∧ ((List.length (preI d c m dr cr sy (1 : Nat)) ≤ (100000 : Nat) ∧ List.length (relI dr cr (1 : Nat)) ≤ (1024 : Nat)) ∧ (2 : Int) = (2 : Int) ∧ (1 : Int) = (↑(1 : Nat) : Int) ∧ cr = relI dr cr (1 : Nat) ∧ (↑(List.length cr) : Int) = (↑(List.length (relI dr cr (1 : Nat))) : Int) ∧ (0 : Int) = (↑(0 : Nat) : Int) ∧ d = d ∧ c = c ∧ m = m ∧ dr = dr ∧ cr = cr ∧ sy = sy ∧ preI d c m dr cr sy (1 : Nat) = preI d c m dr cr sy (1 : Nat) ++ relsB (List.take (0 : Nat) (relI dr cr (1 : Nat))) ∧ dr = dr ∧ cr = cr → (1 : Nat) < (2 : Nat) ∧ True ∧ (2 : Int) = (2 : Int) ∧ (2 : Int) = (↑((1 : Nat) + (1 : Nat)) : Int) ∧ d = d ∧ c = c ∧ m = m ∧ dr = dr ∧ cr = cr ∧ sy = sy ∧ preI d c m dr cr sy (1 : Nat) ++ relsB (relI dr cr (1 : Nat)) = preI d c m dr cr sy ((1 : Nat) + (1 : Nat)) ∧ dr = dr ∧ cr = cr))) := by kernel_rfl
theorem bbytB_2 (rest : List (Nat × SVal)) (d c m : List Int) (dr cr : List Rel) (sy : List Sm) : (Tr.sat (rnd1 (env (G7 ++ rest) [(31, kValid), (70, kputsF)]) (fun _ => True) (2) (HbytB d c m dr cr sy) 2 (XbytB d c m dr cr sy) 2) (run (env (G7 ++ rest) [(31, kValid), (70, kputsF)]) ((fun i : Nat => [(16, LbytC d c m dr cr sy (preI d c m dr cr sy i) (relI dr cr i) i)]) 2) (loopN (bodyOf Tryd.f30) 1) (HbytB d c m dr cr sy 2) .leaf)) = (
  Nat.beq (2 : Nat) (2 : Nat) = true ∧ d = d ∧ c = c ∧ m = m ∧ dr = dr ∧ cr = cr ∧ sy = sy ∧ preI d c m dr cr sy (2 : Nat) = preI d c m dr cr sy (2 : Nat)) := by kernel_rfl
set_option maxHeartbeats 4000000 in
theorem lbytB (d c m : List Int) (dr cr : List Rel) (sy : List Sm) {W : World} {R own0 : Nat → Prop} {ρ0 : Nat → Option Value} (hown : HownOk (env (G7 ++ rest) [(31, kValid), (70, kputsF)]) own0 ρ0) : LOk Tryd.prog (env (G7 ++ rest) [(31, kValid), (70, kputsF)]) (ctx ea has) (G7 ++ rest) W R own0 ρ0 (loopN (bodyOf Tryd.f30) 1) (LbytB d c m dr cr sy) := by
  refine loop1_ok (J := fun _ => True) (N := 2) (env_ok (con := [(31, kValid), (70, kputsF)]) ⟨cValid, cputsF, trivial⟩) hown (ls := fun i => [(16, LbytC d c m dr cr sy (preI d c m dr cr sy i) (relI dr cr i) i)]) (fun i => hl1 (by kernel_rfl) (by kernel_rfl) (lbytC d c m dr cr sy (preI d c m dr cr sy i) (relI dr cr i) i hown)) (fun hm i hi hj => ?_) 0 (fun hm => by first | exact Nat.zero_le _ | omega) (fun hm => trivial)
  have hp := preI_len hm
  have hr := relI_len hm
  match i, hi with
  | 0, _ =>
    refine (bbytB_0 rest d c m dr cr sy).mpr ?_
    simp only [eq_self, true_and, and_true]
    exact ⟨by simp [sumW, SVal.width], fun _ => ⟨⟨⟨hp 0, hr 0⟩, rfl, rfl, rfl, rfl, by simp [relsB]⟩, fun _ => ⟨by omega, rfl, rfl⟩⟩⟩
  | 1, _ =>
    refine (bbytB_1 rest d c m dr cr sy).mpr ?_
    simp only [eq_self, true_and, and_true]
    exact ⟨by simp [sumW, SVal.width], fun _ => ⟨⟨⟨hp 1, hr 1⟩, rfl, rfl, rfl, rfl, by simp [relsB]⟩, fun _ => ⟨by omega, rfl, rfl⟩⟩⟩
  | 2, _ =>
    refine (bbytB_2 rest d c m dr cr sy).mpr ?_
    exact ⟨rfl, rfl, rfl, rfl, rfl, rfl, rfl, rfl⟩
def bytesM (d c m : List Int) (dr cr : List Rel) (sy : List Sm) : List Int := if (validE d c m dr cr sy).isErr = true then [] else bytesO d c m dr cr sy
theorem valid_ser {d c m : List Int} {dr cr : List Rel} {sy : List Sm} (h : (validE d c m dr cr sy).isErr = false) : okSer d c m dr cr sy := by
  obtain ⟨v1, v2, v3, v4, v5, v6, v7, v8, v9⟩ := valid_size h
  refine ⟨v3, v1, by omega, v4, v5, v6, fun s hs => ?_⟩
  obtain ⟨i, hi, he⟩ := List.mem_iff_getElem.1 hs
  have h1 := firstE_all (fun i => symE_np d c m _ _ _ _ _) v8 i hi
  have hg : sy.getD i RT.sym.dflt = s := by rw [List.getD_eq_getElem?_getD, List.getElem?_eq_getElem hi, Option.getD_some, he]
  unfold syE symE at h1
  rw [hg] at h1
  split at h1
  · cases h1
  · rename_i hk
    unfold symOk at hk
    simp at hk
    omega
def kBytes : List SVal → Nat → Acc ORes := fun a n => match a with | [.agg [.ro .u32 d, .ro .u32 c, .ro .u8 m, .ro .rel dr, .ro .rel cr, .ro .sym sy]] => .ret (newR n (.tuple [.own 0, .err (validE d c m dr cr sy)]) ([(0, .recs .u8 (bytesM d c m dr cr sy))]) 1) | _ => .fail "Bytes"
theorem argBytes (d c m : List Int) (dr cr : List Rel) (sy : List Sm) : (all (subL tAtN none' [] deep [.agg [.ro .u32 d, .ro .u32 c, .ro .u8 m, .ro .rel dr, .ro .rel cr, .ro .sym sy]] [.agg [.ro .u32 d, .ro .u32 c, .ro .u8 m, .ro .rel dr, .ro .rel cr, .ro .sym sy]])) = (
  d = d ∧ c = c ∧ m = m ∧ dr = dr ∧ cr = cr ∧ sy = sy) := by kernel_rfl
theorem runBytes (rest : List (Nat × SVal)) (d : List Int) (c : List Int) (m : List Int) (dr : List Rel) (cr : List Rel) (sy : List Sm) : (Tr.sat (newQ (env (G7 ++ rest) [(31, kValid), (70, kputsF)]) (.tuple [.own 0, .err (validE d c m dr cr sy)]) ([(0, .recs .u8 (bytesM d c m dr cr sy))]) 1) (run (env (G7 ++ rest) [(31, kValid), (70, kputsF)]) [(6, LbytA d c m dr cr sy), (13, LbytB d c m dr cr sy), (22, LbytD (preI d c m dr cr sy 2) sy)] (bodyOf Tryd.f30) (start [.agg [.ro .u32 d, .ro .u32 c, .ro .u8 m, .ro .rel dr, .ro .rel cr, .ro .sym sy]] 122) (ends (env (G7 ++ rest) [(31, kValid), (70, kputsF)]) Tryd.f30.results.toList))) = (
  ((!!FErr.isErr (validE d c m dr cr sy)) = true → validE d c m dr cr sy = validE d c m dr cr sy ∧ @List.nil (RT.ty RT.u8) = bytesM d c m dr cr sy) ∧ ((!!FErr.isErr (validE d c m dr cr sy)) = false → (List.length (nilR RT.u8) ≤ (1000000 : Nat) ∧ List.length [(842225232 : Int)] ≤ (1000000 : Nat)) ∧ (List.length (nilR RT.u8) ≤ (1000000 : Nat) ∧ List.length [(842225232 : Int)] ≤ (1000000 : Nat) → (okSer d c m dr cr sy ∧ [(↑(List.length d) : Int), (↑(List.length c) : Int), (↑(List.length dr) : Int), (↑(List.length cr) : Int), (↑(List.length sy) : Int)] = lensL d c dr cr sy ∧ (↑(List.length [(↑(List.length d) : Int), (↑(List.length c) : Int), (↑(List.length dr) : Int), (↑(List.length cr) : Int), (↑(List.length sy) : Int)]) : Int) = (5 : Int) ∧ (0 : Int) = (↑(0 : Nat) : Int) ∧ d = d ∧ c = c ∧ m = m ∧ dr = dr ∧ cr = cr ∧ sy = sy ∧ nilR RT.u8 ++ wordsB [(842225232 : Int)] = headB (List.take (0 : Nat) (lensL d c dr cr sy))) ∧ (okSer d c m dr cr sy ∧ [(↑(List.length d) : Int), (↑(List.length c) : Int), (↑(List.length dr) : Int), (↑(List.length cr) : Int), (↑(List.length sy) : Int)] = lensL d c dr cr sy ∧ (↑(List.length [(↑(List.length d) : Int), (↑(List.length c) : Int), (↑(List.length dr) : Int), (↑(List.length cr) : Int), (↑(List.length sy) : Int)]) : Int) = (5 : Int) ∧ (0 : Int) = (↑(0 : Nat) : Int) ∧ d = d ∧ c = c ∧ m = m ∧ dr = dr ∧ cr = cr ∧ sy = sy ∧ nilR RT.u8 ++ wordsB [(842225232 : Int)] = headB (List.take (0 : Nat) (lensL d c dr cr sy)) → (List.length (headB (lensL d c dr cr sy)) ≤ (1000000 : Nat) ∧ List.length d ≤ (1000000 : Nat)) ∧ (List.length (headB (lensL d c dr cr sy)) ≤ (1000000 : Nat) ∧ List.length d ≤ (1000000 : Nat) → (List.length (headB (lensL d c dr cr sy) ++ wordsB d) ≤ (1000000 : Nat) ∧ List.length c ≤ (1000000 : Nat)) ∧ (List.length (headB (lensL d c dr cr sy) ++ wordsB d) ≤ (1000000 : Nat) ∧ List.length c ≤ (1000000 : Nat) → List.length (headB (lensL d c dr cr sy) ++ wordsB d ++ wordsB c) + List.length m ≤ (137438953472 : Nat) ∧ (List.length (headB (lensL d c dr cr sy) ++ wordsB d ++ wordsB c) + List.length m ≤ (137438953472 : Nat) → (okSer d c m dr cr sy ∧ (2 : Int) = (2 : Int) ∧ (0 : Int) = (↑(0 : Nat) : Int) ∧ d = d ∧ c = c ∧ m = m ∧ dr = dr ∧ cr = cr ∧ sy = sy ∧ headB (lensL d c dr cr sy) ++ wordsB d ++ wordsB c ++ m = preI d c m dr cr sy (0 : Nat) ∧ dr = dr ∧ cr = cr) ∧ (okSer d c m dr cr sy ∧ (2 : Int) = (2 : Int) ∧ (0 : Int) = (↑(0 : Nat) : Int) ∧ d = d ∧ c = c ∧ m = m ∧ dr = dr ∧ cr = cr ∧ sy = sy ∧ headB (lensL d c dr cr sy) ++ wordsB d ++ wordsB c ++ m = preI d c m dr cr sy (0 : Nat) ∧ dr = dr ∧ cr = cr → ((List.length (preI d c m dr cr sy (2 : Nat)) ≤ (100000 : Nat) ∧ List.length sy ≤ (256 : Nat) ∧ ∀ (s : Sm), s ∈ sy → ByteArray.size s.name ≤ (32 : Nat)) ∧ sy = sy ∧ (↑(List.length sy) : Int) = (↑(List.length sy) : Int) ∧ (0 : Int) = (↑(0 : Nat) : Int) ∧ preI d c m dr cr sy (2 : Nat) = preI d c m dr cr sy (2 : Nat) ++ symsB (List.take (0 : Nat) sy)) ∧ ((List.length (preI d c m dr cr sy (2 : Nat)) ≤ (100000 : Nat) ∧ List.length sy ≤ (256 : Nat) ∧ ∀ (s : Sm), s ∈ sy → ByteArray.size s.name ≤ (32 : Nat)) ∧ sy = sy ∧ (↑(List.length sy) : Int) = (↑(List.length sy) : Int) ∧ (0 : Int) = (↑(0 : Nat) : Int) ∧ preI d c m dr cr sy (2 : Nat) = preI d c m dr cr sy (2 : Nat) ++ symsB (List.take (0 : Nat) sy) → FErr.fine = validE d c m dr cr sy ∧ preI d c m dr cr sy (2 : Nat) ++ symsB sy = bytesM d c m dr cr sy))))))))) := by kernel_rfl
set_option maxHeartbeats 4000000 in
theorem cBytes : Con ea has (G7 ++ rest) 30 kBytes := by
  refine new_mkB Tryd.func30 122 (con := [(31, kValid), (70, kputsF)]) ⟨cValid, cputsF, trivial⟩ (fun hA hr hv => ?_) (by kernel_rfl) (by kernel_rfl) Tryd.ntmps30
  unfold kBytes at hr; split at hr
  · rename_i d c m dr cr sy
    have := ret_ok hr; subst this
    refine ⟨_, [(6, LbytA d c m dr cr sy), (13, LbytB d c m dr cr sy), (22, LbytD (preI d c m dr cr sy 2) sy)], _, _, _, ⟨rfl, rfl, rfl⟩, .of (argBytes d c m dr cr sy) (by simp), rfl, rfl, (fun W R ρ0 own0 hown => hl3 (by kernel_rfl) (by kernel_rfl) (lbytA d c m dr cr sy hown) (by kernel_rfl) (lbytB d c m dr cr sy hown) (by kernel_rfl) (lbytD (preI d c m dr cr sy 2) sy hown)), .of (runBytes rest d c m dr cr sy) ?_⟩
    clear hr
    simp only [eq_self, true_and, and_true]
    refine ⟨fun h => ?_, fun h => ?_⟩
    · have h : (validE d c m dr cr sy).isErr = true := by simpa using h
      rw [bytesM, if_pos h]
    · have h : (validE d c m dr cr sy).isErr = false := by simpa using h
      have hs := valid_ser h
      obtain ⟨h1, h2, h3, h4, h5, h6, h7⟩ := id hs
      have e1 := headB_len (lensL d c dr cr sy)
      have e2 : (lensL d c dr cr sy).length = 5 := rfl
      have e3 := wordsB_len d
      have e4 := wordsB_len c
      have e5 := preI_len hs 2
      refine ⟨⟨Nat.zero_le _, by simp⟩, fun _ => ⟨⟨hs, rfl, rfl, rfl, rfl⟩, fun _ => ⟨⟨by omega, by omega⟩, fun _ => ⟨⟨by rw [List.length_append]; omega, by omega⟩, fun _ => ⟨by simp only [List.length_append]; omega, fun _ => ⟨⟨hs, rfl, rfl⟩, fun _ => ⟨⟨⟨e5, h6, h7⟩, rfl, by simp [symsB]⟩, fun _ => ⟨(fine_of h).symm, ?_⟩⟩⟩⟩⟩⟩⟩⟩
      rw [bytesM, h]
      rfl
  · cases hr
end
end Go.Proofs.YtceebkojjmmjmaaDoor

