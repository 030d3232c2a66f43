/- Contracts that the proofs use. -/
import Derived.Test.YtacmmedhjebfjaaGreatDoorQLinkNames4
set_option linter.unusedVariables false
set_option linter.unusedSimpArgs false
set_option linter.unusedSectionVars false
namespace Go.Proofs.YtacmmedhjebfjaaGreatDoor
open Go.RowKit Go.Sy Go.Fac
section
variable {ea : Ear} {has : Int → Prop} {rest : List (Nat × SVal)} [ht : Nonempty (EType ea)]
abbrev kDo12B := borN [.ro (.flat (.int .i64) [.int .i64, .bool])] kDo12
theorem cDo12B : Con ea has (G7 ++ rest) 46 kDo12B := borN_ok cDo12 _
abbrev lyBox (l : List Ob) : Cont := .cells [.ro .obj l, .map 1, .own 2, .own 3, .own 4, .own 5, .nilslice, .nilslice]
abbrev lyHp (l : List Ob) (g : Glb) (da : List Int) (its : List itT.ty) (ow : List (Int × Int)) (im : List (Option Mp)) : List (Nat × Option Cont) := [(0, some (lyBox l)), (1, some (.gmap .str spT g)), (2, some (.recs .i64 da)), (3, some (.recs itT its)), (4, some (.recs spT ow)), (5, some (.recs imT im))]
def HlyI (l : List Ob) (g : Glb) (ii : Nat) (i : Nat) : SState := { fr := [(0, .ptr 0 0), (3, .int .i64 (.sym (oDn l (ii + 1)) 0 1000000)), (4, .int .i64 (.sym ii 0 1000000)), (5, .ptr 6 0), (6, .map 7), (24, .ro .obj l), (25, .int .i64 (.full l.length)), (26, .int .i64 (.sym ii 0 1000000)), (48, .ro .u8 (obN l ii).map), (49, .int .i64 (.full (obN l ii).map.length)), (50, .int .i64 (.sym i 0 1000000))], hp := lyHp l g (oDa l (ii + 1)) (oIt l ii ++ wIt (obN l ii).code (obN l ii).map i) (oOw l ii ++ wOw ii (obN l ii).map i) (oIm l ii) ++ [(6, some (.cells [.ro .u32 (obN l ii).data, .ro .u32 (obN l ii).code, .ro .u8 (obN l ii).map, .ro .rel (obN l ii).drels, .ro .rel (obN l ii).crels, .ro .sym (obN l ii).syms])), (7, some (.intMap (wAt (oBs l ii) (obN l ii).map i)))], next := 8, sz := 232 }
def XlyI (l : List Ob) (g : Glb) (ii : Nat) : SState := { fr := [(0, .ptr 0 0), (3, .int .i64 (.sym (oDn l (ii + 1)) 0 1000000)), (6, .rom (.int .i64) .i64 (some (wAt (oBs l ii) (obN l ii).map (obN l ii).map.length))), (24, .ro .obj l), (25, .int .i64 (.full l.length)), (26, .int .i64 (.sym ii 0 1000000))], hp := lyHp l g (oDa l (ii + 1)) (oIt l (ii + 1)) (oOw l (ii + 1)) (oIm l ii), next := 6, sz := 232 }
def LlyI (l : List Ob) (g : Glb) (ii : Nat) : LSum := ⟨HlyI l g ii 0, fun k => k (.exit 2) (XlyI l g ii), (obN l ii).map.length ≤ 2048 ∧ ii ≤ 1000 ∧ oBs l ii ≤ 1000000⟩
theorem blyI (rest : List (Nat × SVal)) (l : List Ob) (g : Glb) (ii : Nat) (i : Nat) : (Tr.sat (rnd1 (envK (G7 ++ rest) [(43, kInstr), (44, kTables), (45, kTwo), (34, kkreal), (35, kksym), (46, kDo12B), (47, kPlacesB)] 2) (fun _ => True) ((obN l ii).map.length) (HlyI l g ii) 2 (XlyI l g ii) i) (run (envK (G7 ++ rest) [(43, kInstr), (44, kTables), (45, kTwo), (34, kkreal), (35, kksym), (46, kDo12B), (47, kPlacesB)] 2) [] (loopN (loopN (bodyOf Tryz.f32) 0) 0) (HlyI l g ii i) .leaf)) = (
 IT (decide ((↑i : Int) < (↑(List.length (obN l ii).map) : Int))) (RQ (0 ≤ (↑i : Int) ∧ (↑i : Int) < (↑(List.length (obN l ii).map) : Int)) (IT (decide (List.getD (obN l ii).map (Int.toNat (↑i : Int)) (RT.dflt RT.u8) = 0)) (i < List.length (obN l ii).map ∧ True ∧ oDn l (ii + 1) = oDn l (ii + 1) ∧ (↑ii : Int) = (↑ii : Int) ∧ l = l ∧ (↑(List.length l) : Int) = (↑(List.length l) : Int) ∧ (↑ii : Int) = (↑ii : Int) ∧ (obN l ii).map = (obN l ii).map ∧ (↑(List.length (obN l ii).map) : Int) = (↑(List.length (obN l ii).map) : Int) ∧ (↑i : Int) + 1 = (↑(i + 1) : Int) ∧ (0 ≤ (↑(i + 1) : Int) ∧ (↑(i + 1) : Int) ≤ 1000000) ∧ l = l ∧ some g = some g ∧ oDa l (ii + 1) = oDa l (ii + 1) ∧ oIt l ii ++ wIt (obN l ii).code (obN l ii).map i = oIt l ii ++ wIt (obN l ii).code (obN l ii).map (i + 1) ∧ oOw l ii ++ wOw ii (obN l ii).map i = oOw l ii ++ wOw ii (obN l ii).map (i + 1) ∧ oIm l ii = oIm l ii ∧ (obN l ii).data = (obN l ii).data ∧ (obN l ii).code = (obN l ii).code ∧ (obN l ii).map = (obN l ii).map ∧ (obN l ii).drels = (obN l ii).drels ∧ (obN l ii).crels = (obN l ii).crels ∧ (obN l ii).syms = (obN l ii).syms ∧ wAt (oBs l ii) (obN l ii).map i = wAt (oBs l ii) (obN l ii).map (i + 1)) (IT (insB (obN l ii).code (obN l ii).map (↑i : Int) && isaTwo (insI (obN l ii).code (obN l ii).map (↑i : Int)).op) (RQ (List.length (oIt l ii ++ wIt (obN l ii).code (obN l ii).map i) + List.length [((2 : Int), (0 : Int), false)] ≤ 137438953472) (RQ (List.length (oOw l ii ++ wOw ii (obN l ii).map i) + List.length [((↑ii : Int), (↑i : Int))] ≤ 137438953472) (i < List.length (obN l ii).map ∧ True ∧ oDn l (ii + 1) = oDn l (ii + 1) ∧ (↑ii : Int) = (↑ii : Int) ∧ l = l ∧ (↑(List.length l) : Int) = (↑(List.length l) : Int) ∧ (↑ii : Int) = (↑ii : Int) ∧ (obN l ii).map = (obN l ii).map ∧ (↑(List.length (obN l ii).map) : Int) = (↑(List.length (obN l ii).map) : Int) ∧ (↑i : Int) + 1 = (↑(i + 1) : Int) ∧ (0 ≤ (↑(i + 1) : Int) ∧ (↑(i + 1) : Int) ≤ 1000000) ∧ l = l ∧ some g = some g ∧ oDa l (ii + 1) = oDa l (ii + 1) ∧ oIt l ii ++ wIt (obN l ii).code (obN l ii).map i ++ [((2 : Int), (0 : Int), false)] = oIt l ii ++ wIt (obN l ii).code (obN l ii).map (i + 1) ∧ oOw l ii ++ wOw ii (obN l ii).map i ++ [((↑ii : Int), (↑i : Int))] = oOw l ii ++ wOw ii (obN l ii).map (i + 1) ∧ oIm l ii = oIm l ii ∧ (obN l ii).data = (obN l ii).data ∧ (obN l ii).code = (obN l ii).code ∧ (obN l ii).map = (obN l ii).map ∧ (obN l ii).drels = (obN l ii).drels ∧ (obN l ii).crels = (obN l ii).crels ∧ (obN l ii).syms = (obN l ii).syms ∧ mapPut (wAt (oBs l ii) (obN l ii).map i) (↑i : Int) (↑(List.length (oIt l ii ++ wIt (obN l ii).code (obN l ii).map i)) : Int) = wAt (oBs l ii) (obN l ii).map (i + 1)))) (RQ (List.length (oIt l ii ++ wIt (obN l ii).code (obN l ii).map i) + List.length [((1 : Int), (0 : Int), false)] ≤ 137438953472) (RQ (List.length (oOw l ii ++ wOw ii (obN l ii).map i) + List.length [((↑ii : Int), (↑i : Int))] ≤ 137438953472) (i < List.length (obN l ii).map ∧ True ∧ oDn l (ii + 1) = oDn l (ii + 1) ∧ (↑ii : Int) = (↑ii : Int) ∧ l = l ∧ (↑(List.length l) : Int) = (↑(List.length l) : Int) ∧ (↑ii : Int) = (↑ii : Int) ∧ (obN l ii).map = (obN l ii).map ∧ (↑(List.length (obN l ii).map) : Int) = (↑(List.length (obN l ii).map) : Int) ∧ (↑i : Int) + 1 = (↑(i + 1) : Int) ∧ (0 ≤ (↑(i + 1) : Int) ∧ (↑(i + 1) : Int) ≤ 1000000) ∧ l = l ∧ some g = some g ∧ oDa l (ii + 1) = oDa l (ii + 1) ∧ oIt l ii ++ wIt (obN l ii).code (obN l ii).map i ++ [((1 : Int), (0 : Int), false)] = oIt l ii ++ wIt (obN l ii).code (obN l ii).map (i + 1) ∧ oOw l ii ++ wOw ii (obN l ii).map i ++ [((↑ii : Int), (↑i : Int))] = oOw l ii ++ wOw ii (obN l ii).map (i + 1) ∧ oIm l ii = oIm l ii ∧ (obN l ii).data = (obN l ii).data ∧ (obN l ii).code = (obN l ii).code ∧ (obN l ii).map = (obN l ii).map ∧ (obN l ii).drels = (obN l ii).drels ∧ (obN l ii).crels = (obN l ii).crels ∧ (obN l ii).syms = (obN l ii).syms ∧ mapPut (wAt (oBs l ii) (obN l ii).map i) (↑i : Int) (↑(List.length (oIt l ii ++ wIt (obN l ii).code (obN l ii).map i)) : Int) = wAt (oBs l ii) (obN l ii).map (i + 1))))))) (Nat.beq (2 : Nat) (2 : Nat) = true ∧ oDn l (ii + 1) = oDn l (ii + 1) ∧ some (wAt (oBs l ii) (obN l ii).map i) = some (wAt (oBs l ii) (obN l ii).map (List.length (obN l ii).map)) ∧ l = l ∧ (↑(List.length l) : Int) = (↑(List.length l) : Int) ∧ (↑ii : Int) = (↑ii : Int) ∧ l = l ∧ some g = some g ∧ oDa l (ii + 1) = oDa l (ii + 1) ∧ oIt l ii ++ wIt (obN l ii).code (obN l ii).map i = oIt l (ii + 1) ∧ oOw l ii ++ wOw ii (obN l ii).map i = oOw l (ii + 1) ∧ oIm l ii = oIm l ii)) := by kernel_rfl
set_option maxHeartbeats 4000000 in
theorem llyI (l : List Ob) (g : Glb) (ii : Nat) {W : World} {R own0 : Nat → Prop} {ρ0 : Nat → Option Value} (hown : HownOk (envK (G7 ++ rest) [(43, kInstr), (44, kTables), (45, kTwo), (34, kkreal), (35, kksym), (46, kDo12B), (47, kPlacesB)] 2) own0 ρ0) : LOk Tryz.prog (envK (G7 ++ rest) [(43, kInstr), (44, kTables), (45, kTwo), (34, kkreal), (35, kksym), (46, kDo12B), (47, kPlacesB)] 2) (ctx ea has) (G7 ++ rest) W R own0 ρ0 (loopN (loopN (bodyOf Tryz.f32) 0) 0) (LlyI l g ii) := by
 refine loop1_ok (J := fun _ => True) (N := (obN l ii).map.length) (H := HlyI l g ii) (X := XlyI l g ii) (envK_ok (con := [(43, kInstr), (44, kTables), (45, kTwo), (34, kkreal), (35, kksym), (46, kDo12B), (47, kPlacesB)]) ⟨cInstr, cTables, cTwo, ckreal, cksym, cDo12B, cPlacesB, trivial⟩) hown (ls := fun i => []) (fun i => noSums (by kernel_rfl)) (fun hm i hi hj => ?_) 0 (fun hm => by first | exact Nat.zero_le _ | omega) (fun hm => trivial)
 rw [blyI rest l g ii i]
 delta RQ IT
 simp only [Int.toNat_natCast, eq_self, true_and, and_true]
 obtain ⟨h1, h2, h3⟩ := hm
 have d1 : RT.u8.dflt = (0 : Int) := rfl
 rw [d1]
 have L1 : (oIt l ii ++ wIt (obN l ii).code (obN l ii).map i).length = oBs l ii + rk (obN l ii).map i := by rw [List.length_append, oIt_len, wIt_len]
 have L2 : (oOw l ii ++ wOw ii (obN l ii).map i).length = oBs l ii + rk (obN l ii).map i := by rw [List.length_append, oOw_len, wOw_len]
 have hr := rk_le (obN l ii).map i
 have sz : szW (obN l ii).code (obN l ii).map i = if (insB (obN l ii).code (obN l ii).map i && isaTwo (insI (obN l ii).code (obN l ii).map i).op) = true then 2 else 1 := rfl
 have e1 : ∀ z, (obN l ii).map.getD i 0 ≠ 0 → szW (obN l ii).code (obN l ii).map i = z → oIt l ii ++ wIt (obN l ii).code (obN l ii).map i ++ [(z, 0, false)] = oIt l ii ++ wIt (obN l ii).code (obN l ii).map (i + 1) := fun z h hz => by
  rw [wIt, if_neg h, hz, List.append_assoc]
 have e2 : (obN l ii).map.getD i 0 ≠ 0 → oOw l ii ++ wOw ii (obN l ii).map i ++ [((ii : Int), (i : Int))] = oOw l ii ++ wOw ii (obN l ii).map (i + 1) := fun h => by
  rw [wOw, if_neg h, List.append_assoc]
 have e3 : (obN l ii).map.getD i 0 ≠ 0 → mapPut (wAt (oBs l ii) (obN l ii).map i) (i : Int) (((oIt l ii ++ wIt (obN l ii).code (obN l ii).map i).length : Nat) : Int) = wAt (oBs l ii) (obN l ii).map (i + 1) := fun h => by
  rw [wAt, if_neg h, L1]
 rw [L1, L2]
 rw [L1] at e3
 refine ⟨fun h => ?_, fun h => ?_⟩
 ·have h := of_decide_eq_true h
  have hlt : i < (obN l ii).map.length := by omega
  refine ⟨by omega, fun _ => ⟨fun g1 => ?_, fun g1 => ⟨fun g2 => ⟨by simp only [List.length_singleton]; omega, fun _ => ⟨by simp only [List.length_singleton]; omega, fun _ => ?_⟩⟩, fun g2 => ⟨by simp only [List.length_singleton]; omega, fun _ => ⟨by simp only [List.length_singleton]; omega, fun _ => ?_⟩⟩⟩⟩⟩
  ·have g1 := of_decide_eq_true g1
   rw [wIt, if_pos g1, wOw, if_pos g1, wAt, if_pos g1]
   exact ⟨hlt, by omega, by omega, rfl, rfl, rfl⟩
  ·have g1 := of_decide_eq_false g1
   rw [if_pos g2] at sz
   exact ⟨hlt, by omega, by omega, e1 2 g1 sz, e2 g1, e3 g1⟩
  ·have g1 := of_decide_eq_false g1
   rw [if_neg (by rw [g2]; simp)] at sz
   exact ⟨hlt, by omega, by omega, e1 1 g1 sz, e2 g1, e3 g1⟩
 ·have h := of_decide_eq_false h
  have : i = (obN l ii).map.length := by omega
  subst this
  exact ⟨rfl, rfl, rfl, rfl⟩
def HlyA (l : List Ob) (g : Glb) (i : Nat) : SState := { fr := [(0, .ptr 0 0), (3, .int .i64 (.sym (oDn l i) 0 1000000)), (24, .ro .obj l), (25, .int .i64 (.full l.length)), (26, .int .i64 (.sym i 0 1000000))], hp := lyHp l g (oDa l i) (oIt l i) (oOw l i) (oIm l i), next := 6, sz := 232 }
def XlyA (l : List Ob) (g : Glb) : SState := { fr := [(0, .ptr 0 0), (3, .int .i64 (.sym (oDn l l.length) 0 1000000))], hp := lyHp l g (oDa l l.length) (oIt l l.length) (oOw l l.length) (oIm l l.length), next := 6, sz := 232 }
def LlyA (l : List Ob) (g : Glb) : LSum := ⟨HlyA l g 0, fun k => k (.exit 0) (XlyA l g), NmG l g⟩
theorem blyA (rest : List (Nat × SVal)) (l : List Ob) (g : Glb) (i : Nat) : (Tr.sat (rnd1 (envK (G7 ++ rest) [(43, kInstr), (44, kTables), (45, kTwo), (34, kkreal), (35, kksym), (46, kDo12B), (47, kPlacesB)] 2) (fun _ => True) (l.length) (HlyA l g) 0 (XlyA l g) i) (run (envK (G7 ++ rest) [(43, kInstr), (44, kTables), (45, kTwo), (34, kkreal), (35, kksym), (46, kDo12B), (47, kPlacesB)] 2) [(9, LlyI l g i)] (loopN (bodyOf Tryz.f32) 0) (HlyA l g i) .leaf)) = (
 IT (decide ((↑i : Int) < (↑(List.length l) : Int))) (RQ (0 ≤ (↑i : Int) ∧ (↑i : Int) < (↑(List.length l) : Int)) (RQ (List.length (oDa l i) + List.length [oDn l i] ≤ 137438953472) (RQ ((List.length (obN l i).map ≤ 2048 ∧ i ≤ 1000 ∧ oBs l i ≤ 1000000) ∧ IntKind.wrap IntKind.i64 (oDn l i + (↑(List.length (List.getD l (Int.toNat (↑i : Int)) (RT.dflt RT.obj)).data) : Int)) = oDn l (i + 1) ∧ (0 ≤ oDn l (i + 1) ∧ oDn l (i + 1) ≤ 1000000) ∧ (↑i : Int) = (↑i : Int) ∧ l = l ∧ (↑(List.length l) : Int) = (↑(List.length l) : Int) ∧ (↑i : Int) = (↑i : Int) ∧ (List.getD l (Int.toNat (↑i : Int)) (RT.dflt RT.obj)).map = (obN l i).map ∧ (↑(List.length (List.getD l (Int.toNat (↑i : Int)) (RT.dflt RT.obj)).map) : Int) = (↑(List.length (obN l i).map) : Int) ∧ (0 : Int) = (↑(0 : Nat) : Int) ∧ l = l ∧ some g = some g ∧ oDa l i ++ [oDn l i] = oDa l (i + 1) ∧ oIt l i = oIt l i ++ wIt (obN l i).code (obN l i).map (0 : Nat) ∧ oOw l i = oOw l i ++ wOw i (obN l i).map (0 : Nat) ∧ oIm l i = oIm l i ∧ (List.getD l (Int.toNat (↑i : Int)) (RT.dflt RT.obj)).data = (obN l i).data ∧ (List.getD l (Int.toNat (↑i : Int)) (RT.dflt RT.obj)).code = (obN l i).code ∧ (List.getD l (Int.toNat (↑i : Int)) (RT.dflt RT.obj)).map = (obN l i).map ∧ (List.getD l (Int.toNat (↑i : Int)) (RT.dflt RT.obj)).drels = (obN l i).drels ∧ (List.getD l (Int.toNat (↑i : Int)) (RT.dflt RT.obj)).crels = (obN l i).crels ∧ (List.getD l (Int.toNat (↑i : Int)) (RT.dflt RT.obj)).syms = (obN l i).syms ∧ @List.nil (Int × Int) = wAt (oBs l i) (obN l i).map (0 : Nat)) (RQ (List.length (oIm l i) + List.length [some (wAt (oBs l i) (obN l i).map (List.length (obN l i).map))] ≤ 137438953472) (i < List.length l ∧ True ∧ oDn l (i + 1) = oDn l (i + 1) ∧ l = l ∧ (↑(List.length l) : Int) = (↑(List.length l) : Int) ∧ (↑i : Int) + 1 = (↑(i + 1) : Int) ∧ (0 ≤ (↑(i + 1) : Int) ∧ (↑(i + 1) : Int) ≤ 1000000) ∧ l = l ∧ some g = some g ∧ oDa l (i + 1) = oDa l (i + 1) ∧ oIt l (i + 1) = oIt l (i + 1) ∧ oOw l (i + 1) = oOw l (i + 1) ∧ oIm l i ++ [some (wAt (oBs l i) (obN l i).map (List.length (obN l i).map))] = oIm l (i + 1)))))) (Nat.beq (0 : Nat) (0 : Nat) = true ∧ oDn l i = oDn l (List.length l) ∧ l = l ∧ some g = some g ∧ oDa l i = oDa l (List.length l) ∧ oIt l i = oIt l (List.length l) ∧ oOw l i = oOw l (List.length l) ∧ oIm l i = oIm l (List.length l))) := by kernel_rfl
set_option maxHeartbeats 4000000 in
theorem llyA (l : List Ob) (g : Glb) {W : World} {R own0 : Nat → Prop} {ρ0 : Nat → Option Value} (hown : HownOk (envK (G7 ++ rest) [(43, kInstr), (44, kTables), (45, kTwo), (34, kkreal), (35, kksym), (46, kDo12B), (47, kPlacesB)] 2) own0 ρ0) : LOk Tryz.prog (envK (G7 ++ rest) [(43, kInstr), (44, kTables), (45, kTwo), (34, kkreal), (35, kksym), (46, kDo12B), (47, kPlacesB)] 2) (ctx ea has) (G7 ++ rest) W R own0 ρ0 (loopN (bodyOf Tryz.f32) 0) (LlyA l g) := by
 refine loop1_ok (J := fun _ => True) (N := l.length) (H := HlyA l g) (X := XlyA l g) (envK_ok (con := [(43, kInstr), (44, kTables), (45, kTwo), (34, kkreal), (35, kksym), (46, kDo12B), (47, kPlacesB)]) ⟨cInstr, cTables, cTwo, ckreal, cksym, cDo12B, cPlacesB, trivial⟩) hown (ls := fun i => [(9, LlyI l g i)]) (fun i => hl1 (by kernel_rfl) (by kernel_rfl) (llyI l g i hown)) (fun hm i hi hj => ?_) 0 (fun hm => by first | exact Nat.zero_le _ | omega) (fun hm => trivial)
 rw [blyA rest l g i]
 delta RQ IT
 simp only [Int.toNat_natCast, eq_self, true_and, and_true]
 have G := hm
 have hf := G.few
 refine ⟨fun h => ?_, fun h => ?_⟩
 ·have h := of_decide_eq_true h
  have hlt : i < l.length := by omega
  have V := G.val i hlt
  have v1 := V.map
  have v2 := V.code
  have v3 := V.data
  obtain ⟨b1, b2, b3⟩ := G.bs (show i ≤ l.length by omega)
  have d2 : oDn l (i + 1) = oDn l i + (obN l i).data.length := rfl
  have w : IntKind.i64.wrap (oDn l i + ((obN l i).data.length : Nat)) = oDn l (i + 1) := by rw [IntKind.wrap_i64, d2]; omega
  refine ⟨by omega, fun _ => ⟨by rw [oDa_len]; simp only [List.length_singleton]; omega, fun _ => ⟨⟨⟨by omega, by omega, by omega⟩, w, by omega, rfl, rfl, (List.append_nil _).symm, (List.append_nil _).symm, rfl⟩, fun _ => ⟨by rw [oIm_len]; simp only [List.length_singleton]; omega, fun _ => ⟨hlt, by omega, by omega, rfl⟩⟩⟩⟩⟩
 ·have h := of_decide_eq_false h
  have : i = l.length := by omega
  subst this
  exact ⟨rfl, rfl, rfl, rfl, rfl, rfl⟩
def HlyJ (l : List Ob) (g : Glb) (ii : Nat) (i : Nat) : SState := { fr := [(0, .ptr 0 0), (3, .int .i64 (.sym (oDn l l.length) 0 1000000)), (12, .int .i64 (.sym ii 0 1000000)), (116, .ro .obj l), (117, .int .i64 (.full l.length)), (118, .int .i64 (.sym ii 0 1000000)), (124, .ro .rel (obN l ii).crels), (125, .int .i64 (.full (obN l ii).crels.length)), (126, .int .i64 (.sym i 0 1000000))], hp := lyHp l g (oDa l l.length) (brJ l g ii (brO l g ii) i) (oOw l l.length) (imL l), next := 6, sz := 232 }
def XlyJ (l : List Ob) (g : Glb) (ii : Nat) : SState := { fr := [(0, .ptr 0 0), (3, .int .i64 (.sym (oDn l l.length) 0 1000000)), (116, .ro .obj l), (117, .int .i64 (.full l.length)), (118, .int .i64 (.sym ii 0 1000000))], hp := lyHp l g (oDa l l.length) (brO l g (ii + 1)) (oOw l l.length) (imL l), next := 6, sz := 232 }
def LlyJ (l : List Ob) (g : Glb) (ii : Nat) : LSum := ⟨HlyJ l g ii 0, fun k => k (.exit 6) (XlyJ l g ii), NmG l g ∧ ii < l.length⟩
theorem blyJ (rest : List (Nat × SVal)) (l : List Ob) (g : Glb) (ii : Nat) (i : Nat) : (Tr.sat (rnd1 (envK (G7 ++ rest) [(43, kInstr), (44, kTables), (45, kTwo), (34, kkreal), (35, kksym), (46, kDo12B), (47, kPlacesB)] 2) (fun _ => True) ((obN l ii).crels.length) (HlyJ l g ii) 6 (XlyJ l g ii) i) (run (envK (G7 ++ rest) [(43, kInstr), (44, kTables), (45, kTwo), (34, kkreal), (35, kksym), (46, kDo12B), (47, kPlacesB)] 2) [] (loopN (loopN (bodyOf Tryz.f32) 1) 0) (HlyJ l g ii i) .leaf)) = (
 IT (decide ((↑i : Int) < (↑(List.length (obN l ii).crels) : Int))) (RQ (0 ≤ (↑i : Int) ∧ (↑i : Int) < (↑(List.length (obN l ii).crels) : Int)) (IT (decide ((List.getD (obN l ii).crels (Int.toNat (↑i : Int)) (RT.dflt RT.rel)).kind = 2)) (RQ (0 ≤ (↑ii : Int) ∧ (↑ii : Int) < (↑(List.length l) : Int) ∧ 0 ≤ (List.getD (obN l ii).crels (Int.toNat (↑i : Int)) (RT.dflt RT.rel)).sym ∧ (List.getD (obN l ii).crels (Int.toNat (↑i : Int)) (RT.dflt RT.rel)).sym < (↑(List.length (List.getD l (Int.toNat (↑ii : Int)) (RT.dflt RT.obj)).syms) : Int)) (RQ (0 ≤ (↑ii : Int) ∧ (↑ii : Int) < (↑(List.length (imL l)) : Int)) (RQ (0 ≤ gGet (RT.dflt RT.i64) (Option.getD (List.getD (imL l) (Int.toNat (↑ii : Int)) (RT.dflt (RT.fmap (FK.int IntKind.i64) RT.i64))) (@List.nil (FK.ty (FK.int IntKind.i64) × RT.ty RT.i64))) (List.getD (obN l ii).crels (Int.toNat (↑i : Int)) (RT.dflt RT.rel)).at_ ∧ gGet (RT.dflt RT.i64) (Option.getD (List.getD (imL l) (Int.toNat (↑ii : Int)) (RT.dflt (RT.fmap (FK.int IntKind.i64) RT.i64))) (@List.nil (FK.ty (FK.int IntKind.i64) × RT.ty RT.i64))) (List.getD (obN l ii).crels (Int.toNat (↑i : Int)) (RT.dflt RT.rel)).at_ < (↑(List.length (brJ l g ii (brO l g ii) i)) : Int)) (RQ (0 ≤ (realM l g (↑ii : Int) (List.getD (obN l ii).crels (Int.toNat (↑i : Int)) (RT.dflt RT.rel)).sym).fst ∧ (realM l g (↑ii : Int) (List.getD (obN l ii).crels (Int.toNat (↑i : Int)) (RT.dflt RT.rel)).sym).fst < (↑(List.length (imL l)) : Int)) (RQ (0 ≤ (realM l g (↑ii : Int) (List.getD (obN l ii).crels (Int.toNat (↑i : Int)) (RT.dflt RT.rel)).sym).fst ∧ (realM l g (↑ii : Int) (List.getD (obN l ii).crels (Int.toNat (↑i : Int)) (RT.dflt RT.rel)).sym).fst < (↑(List.length l) : Int) ∧ 0 ≤ (realM l g (↑ii : Int) (List.getD (obN l ii).crels (Int.toNat (↑i : Int)) (RT.dflt RT.rel)).sym).snd ∧ (realM l g (↑ii : Int) (List.getD (obN l ii).crels (Int.toNat (↑i : Int)) (RT.dflt RT.rel)).sym).snd < (↑(List.length (List.getD l (Int.toNat (realM l g (↑ii : Int) (List.getD (obN l ii).crels (Int.toNat (↑i : Int)) (RT.dflt RT.rel)).sym).fst) (RT.dflt RT.obj)).syms) : Int)) (i < List.length (obN l ii).crels ∧ True ∧ oDn l (List.length l) = oDn l (List.length l) ∧ (↑ii : Int) = (↑ii : Int) ∧ l = l ∧ (↑(List.length l) : Int) = (↑(List.length l) : Int) ∧ (↑ii : Int) = (↑ii : Int) ∧ (obN l ii).crels = (obN l ii).crels ∧ (↑(List.length (obN l ii).crels) : Int) = (↑(List.length (obN l ii).crels) : Int) ∧ (↑i : Int) + 1 = (↑(i + 1) : Int) ∧ (0 ≤ (↑(i + 1) : Int) ∧ (↑(i + 1) : Int) ≤ 1000000) ∧ l = l ∧ some g = some g ∧ oDa l (List.length l) = oDa l (List.length l) ∧ List.set (List.set (brJ l g ii (brO l g ii) i) (Int.toNat (gGet (RT.dflt RT.i64) (Option.getD (List.getD (imL l) (Int.toNat (↑ii : Int)) (RT.dflt (RT.fmap (FK.int IntKind.i64) RT.i64))) (@List.nil (FK.ty (FK.int IntKind.i64) × RT.ty RT.i64))) (List.getD (obN l ii).crels (Int.toNat (↑i : Int)) (RT.dflt RT.rel)).at_)) ((List.getD (brJ l g ii (brO l g ii) i) (Int.toNat (gGet (RT.dflt RT.i64) (Option.getD (List.getD (imL l) (Int.toNat (↑ii : Int)) (RT.dflt (RT.fmap (FK.int IntKind.i64) RT.i64))) (@List.nil (FK.ty (FK.int IntKind.i64) × RT.ty RT.i64))) (List.getD (obN l ii).crels (Int.toNat (↑i : Int)) (RT.dflt RT.rel)).at_)) (RT.dflt (RT.flat (FK.int IntKind.i64) [FK.int IntKind.i64, FK.bool]))).fst, (List.getD (brJ l g ii (brO l g ii) i) (Int.toNat (gGet (RT.dflt RT.i64) (Option.getD (List.getD (imL l) (Int.toNat (↑ii : Int)) (RT.dflt (RT.fmap (FK.int IntKind.i64) RT.i64))) (@List.nil (FK.ty (FK.int IntKind.i64) × RT.ty RT.i64))) (List.getD (obN l ii).crels (Int.toNat (↑i : Int)) (RT.dflt RT.rel)).at_)) (RT.dflt (RT.flat (FK.int IntKind.i64) [FK.int IntKind.i64, FK.bool]))).snd.fst, true)) (Int.toNat (gGet (RT.dflt RT.i64) (Option.getD (List.getD (imL l) (Int.toNat (↑ii : Int)) (RT.dflt (RT.fmap (FK.int IntKind.i64) RT.i64))) (@List.nil (FK.ty (FK.int IntKind.i64) × RT.ty RT.i64))) (List.getD (obN l ii).crels (Int.toNat (↑i : Int)) (RT.dflt RT.rel)).at_)) ((List.getD (List.set (brJ l g ii (brO l g ii) i) (Int.toNat (gGet (RT.dflt RT.i64) (Option.getD (List.getD (imL l) (Int.toNat (↑ii : Int)) (RT.dflt (RT.fmap (FK.int IntKind.i64) RT.i64))) (@List.nil (FK.ty (FK.int IntKind.i64) × RT.ty RT.i64))) (List.getD (obN l ii).crels (Int.toNat (↑i : Int)) (RT.dflt RT.rel)).at_)) ((List.getD (brJ l g ii (brO l g ii) i) (Int.toNat (gGet (RT.dflt RT.i64) (Option.getD (List.getD (imL l) (Int.toNat (↑ii : Int)) (RT.dflt (RT.fmap (FK.int IntKind.i64) RT.i64))) (@List.nil (FK.ty (FK.int IntKind.i64) × RT.ty RT.i64))) (List.getD (obN l ii).crels (Int.toNat (↑i : Int)) (RT.dflt RT.rel)).at_)) (RT.dflt (RT.flat (FK.int IntKind.i64) [FK.int IntKind.i64, FK.bool]))).fst, (List.getD (brJ l g ii (brO l g ii) i) (Int.toNat (gGet (RT.dflt RT.i64) (Option.getD (List.getD (imL l) (Int.toNat (↑ii : Int)) (RT.dflt (RT.fmap (FK.int IntKind.i64) RT.i64))) (@List.nil (FK.ty (FK.int IntKind.i64) × RT.ty RT.i64))) (List.getD (obN l ii).crels (Int.toNat (↑i : Int)) (RT.dflt RT.rel)).at_)) (RT.dflt (RT.flat (FK.int IntKind.i64) [FK.int IntKind.i64, FK.bool]))).snd.fst, true)) (Int.toNat (gGet (RT.dflt RT.i64) (Option.getD (List.getD (imL l) (Int.toNat (↑ii : Int)) (RT.dflt (RT.fmap (FK.int IntKind.i64) RT.i64))) (@List.nil (FK.ty (FK.int IntKind.i64) × RT.ty RT.i64))) (List.getD (obN l ii).crels (Int.toNat (↑i : Int)) (RT.dflt RT.rel)).at_)) (RT.dflt (RT.flat (FK.int IntKind.i64) [FK.int IntKind.i64, FK.bool]))).fst, gGet (RT.dflt RT.i64) (Option.getD (List.getD (imL l) (Int.toNat (realM l g (↑ii : Int) (List.getD (obN l ii).crels (Int.toNat (↑i : Int)) (RT.dflt RT.rel)).sym).fst) (RT.dflt (RT.fmap (FK.int IntKind.i64) RT.i64))) (@List.nil (FK.ty (FK.int IntKind.i64) × RT.ty RT.i64))) (symAt l (realM l g (↑ii : Int) (List.getD (obN l ii).crels (Int.toNat (↑i : Int)) (RT.dflt RT.rel)).sym).fst (realM l g (↑ii : Int) (List.getD (obN l ii).crels (Int.toNat (↑i : Int)) (RT.dflt RT.rel)).sym).snd).value, (List.getD (List.set (brJ l g ii (brO l g ii) i) (Int.toNat (gGet (RT.dflt RT.i64) (Option.getD (List.getD (imL l) (Int.toNat (↑ii : Int)) (RT.dflt (RT.fmap (FK.int IntKind.i64) RT.i64))) (@List.nil (FK.ty (FK.int IntKind.i64) × RT.ty RT.i64))) (List.getD (obN l ii).crels (Int.toNat (↑i : Int)) (RT.dflt RT.rel)).at_)) ((List.getD (brJ l g ii (brO l g ii) i) (Int.toNat (gGet (RT.dflt RT.i64) (Option.getD (List.getD (imL l) (Int.toNat (↑ii : Int)) (RT.dflt (RT.fmap (FK.int IntKind.i64) RT.i64))) (@List.nil (FK.ty (FK.int IntKind.i64) × RT.ty RT.i64))) (List.getD (obN l ii).crels (Int.toNat (↑i : Int)) (RT.dflt RT.rel)).at_)) (RT.dflt (RT.flat (FK.int IntKind.i64) [FK.int IntKind.i64, FK.bool]))).fst, (List.getD (brJ l g ii (brO l g ii) i) (Int.toNat (gGet (RT.dflt RT.i64) (Option.getD (List.getD (imL l) (Int.toNat (↑ii : Int)) (RT.dflt (RT.fmap (FK.int IntKind.i64) RT.i64))) (@List.nil (FK.ty (FK.int IntKind.i64) × RT.ty RT.i64))) (List.getD (obN l ii).crels (Int.toNat (↑i : Int)) (RT.dflt RT.rel)).at_)) (RT.dflt (RT.flat (FK.int IntKind.i64) [FK.int IntKind.i64, FK.bool]))).snd.fst, true)) (Int.toNat (gGet (RT.dflt RT.i64) (Option.getD (List.getD (imL l) (Int.toNat (↑ii : Int)) (RT.dflt (RT.fmap (FK.int IntKind.i64) RT.i64))) (@List.nil (FK.ty (FK.int IntKind.i64) × RT.ty RT.i64))) (List.getD (obN l ii).crels (Int.toNat (↑i : Int)) (RT.dflt RT.rel)).at_)) (RT.dflt (RT.flat (FK.int IntKind.i64) [FK.int IntKind.i64, FK.bool]))).snd.snd) = brJ l g ii (brO l g ii) (i + 1) ∧ oOw l (List.length l) = oOw l (List.length l) ∧ imL l = imL l)))))) (i < List.length (obN l ii).crels ∧ True ∧ oDn l (List.length l) = oDn l (List.length l) ∧ (↑ii : Int) = (↑ii : Int) ∧ l = l ∧ (↑(List.length l) : Int) = (↑(List.length l) : Int) ∧ (↑ii : Int) = (↑ii : Int) ∧ (obN l ii).crels = (obN l ii).crels ∧ (↑(List.length (obN l ii).crels) : Int) = (↑(List.length (obN l ii).crels) : Int) ∧ (↑i : Int) + 1 = (↑(i + 1) : Int) ∧ (0 ≤ (↑(i + 1) : Int) ∧ (↑(i + 1) : Int) ≤ 1000000) ∧ l = l ∧ some g = some g ∧ oDa l (List.length l) = oDa l (List.length l) ∧ brJ l g ii (brO l g ii) i = brJ l g ii (brO l g ii) (i + 1) ∧ oOw l (List.length l) = oOw l (List.length l) ∧ imL l = imL l))) (Nat.beq (6 : Nat) (6 : Nat) = true ∧ oDn l (List.length l) = oDn l (List.length l) ∧ l = l ∧ (↑(List.length l) : Int) = (↑(List.length l) : Int) ∧ (↑ii : Int) = (↑ii : Int) ∧ l = l ∧ some g = some g ∧ oDa l (List.length l) = oDa l (List.length l) ∧ brJ l g ii (brO l g ii) i = brO l g (ii + 1) ∧ oOw l (List.length l) = oOw l (List.length l) ∧ imL l = imL l)) := by kernel_rfl
set_option maxHeartbeats 4000000 in
theorem llyJ (l : List Ob) (g : Glb) (ii : Nat) {W : World} {R own0 : Nat → Prop} {ρ0 : Nat → Option Value} (hown : HownOk (envK (G7 ++ rest) [(43, kInstr), (44, kTables), (45, kTwo), (34, kkreal), (35, kksym), (46, kDo12B), (47, kPlacesB)] 2) own0 ρ0) : LOk Tryz.prog (envK (G7 ++ rest) [(43, kInstr), (44, kTables), (45, kTwo), (34, kkreal), (35, kksym), (46, kDo12B), (47, kPlacesB)] 2) (ctx ea has) (G7 ++ rest) W R own0 ρ0 (loopN (loopN (bodyOf Tryz.f32) 1) 0) (LlyJ l g ii) := by
 refine loop1_ok (J := fun _ => True) (N := (obN l ii).crels.length) (H := HlyJ l g ii) (X := XlyJ l g ii) (envK_ok (con := [(43, kInstr), (44, kTables), (45, kTwo), (34, kkreal), (35, kksym), (46, kDo12B), (47, kPlacesB)]) ⟨cInstr, cTables, cTwo, ckreal, cksym, cDo12B, cPlacesB, trivial⟩) hown (ls := fun i => []) (fun i => noSums (by kernel_rfl)) (fun hm i hi hj => ?_) 0 (fun hm => by first | exact Nat.zero_le _ | omega) (fun hm => trivial)
 rw [blyJ rest l g ii i]
 delta RQ IT
 simp only [Int.toNat_natCast, eq_self, true_and, and_true]
 obtain ⟨G, hii⟩ := hm
 have V := G.val ii hii
 have hcr := V.crels
 have hL := brJ_len l g ii (brO l g ii) i
 rw [brO_len] at hL
 have hI : (imL l).length = l.length := oIm_len l l.length
 have hs : brJ l g ii (brO l g ii) (i + 1) = brS l g ii i (brJ l g ii (brO l g ii) i) := rfl
 refine ⟨fun h => ?_, fun h => ?_⟩
 ·have h := of_decide_eq_true h
  have hlt : i < (obN l ii).crels.length := by omega
  obtain ⟨c1, c2, c3, c4, c5, c6, c7, c8, _⟩ := V.crel hlt _ rfl
  obtain ⟨o, x, e, ho, hx, _⟩ := G.real hii c3 c4
  refine ⟨by omega, fun _ => ⟨fun g1 => ⟨⟨by omega, by omega, c3, c4⟩, fun _ => ⟨by omega, fun _ => ?_⟩⟩, fun g1 => ?_⟩⟩
  ·have g1 := of_decide_eq_true g1
   have hm0 : (obN l ii).map.getD (relN l ii i).at_.toNat 0 = 1 := by
    unfold shapeB at c8
    rw [if_pos g1] at c8
    simp only [Bool.and_eq_true] at c8
    have hb := c8.1.1.1
    unfold insB at hb
    rw [Bool.and_eq_true] at hb
    have hb := hb.1
    unfold begM at hb
    simp only [Bool.not_eq_true', Bool.or_eq_false_iff, Bool.not_eq_false', decide_eq_true_eq] at hb
    exact hb.2
   have hw : (relN l ii i).at_.toNat < (obN l ii).map.length := by have := V.map; show ((obN l ii).crels.getD i RT.rel.dflt).at_.toNat < _; omega
   have ha := im1_at hii hw (by rw [hm0]; decide)
   rw [Int.toNat_of_nonneg c1] at ha
   have hp := pix_lt (l := l) hii hw (by rw [hm0]; decide)
   have hb : brP l ii i = pix l ii (relN l ii i).at_.toNat := by unfold brP; rw [ha]; rfl
   refine ⟨?_, fun _ => ⟨?_, fun _ => ⟨?_, fun _ => ⟨hlt, by omega, by omega, ?_⟩⟩⟩⟩
   ·show 0 ≤ im1 (imL l) ii (relN l ii i).at_ ∧ im1 (imL l) ii (relN l ii i).at_ < _
    rw [ha, hL]; omega
   ·rw [e, hI]; exact ⟨by omega, by omega⟩
   ·rw [e]; exact ⟨by omega, by omega, by omega, by show ((x : Nat) : Int) < ((obN l ((o : Nat) : Int).toNat).syms.length : Nat); rw [Int.toNat_natCast]; omega⟩
   ·rw [hs, brS, if_pos g1]
    exact brS_two _ (brP l ii i) _ (by rw [hL, hb]; exact hp)
  ·have g1 := of_decide_eq_false g1
   refine ⟨hlt, by omega, by omega, ?_⟩
   rw [hs, brS, if_neg g1]
 ·have h := of_decide_eq_false h
  have : i = (obN l ii).crels.length := by omega
  subst this
  exact ⟨rfl, rfl⟩
def HlyB (l : List Ob) (g : Glb) (i : Nat) : SState := { fr := [(0, .ptr 0 0), (3, .int .i64 (.sym (oDn l l.length) 0 1000000)), (116, .ro .obj l), (117, .int .i64 (.full l.length)), (118, .int .i64 (.sym i 0 1000000))], hp := lyHp l g (oDa l l.length) (brO l g i) (oOw l l.length) (imL l), next := 6, sz := 232 }
def XlyB (l : List Ob) (g : Glb) : SState := { fr := [(0, .ptr 0 0), (3, .int .i64 (.sym (oDn l l.length) 0 1000000))], hp := lyHp l g (oDa l l.length) (itF l g) (oOw l l.length) (imL l), next := 6, sz := 232 }
def LlyB (l : List Ob) (g : Glb) : LSum := ⟨HlyB l g 0, fun k => k (.exit 4) (XlyB l g), NmG l g⟩
theorem blyB (rest : List (Nat × SVal)) (l : List Ob) (g : Glb) (i : Nat) : (Tr.sat (rnd1 (envK (G7 ++ rest) [(43, kInstr), (44, kTables), (45, kTwo), (34, kkreal), (35, kksym), (46, kDo12B), (47, kPlacesB)] 2) (fun _ => True) (l.length) (HlyB l g) 4 (XlyB l g) i) (run (envK (G7 ++ rest) [(43, kInstr), (44, kTables), (45, kTwo), (34, kkreal), (35, kksym), (46, kDo12B), (47, kPlacesB)] 2) [(25, LlyJ l g i)] (loopN (bodyOf Tryz.f32) 1) (HlyB l g i) .leaf)) = (
 IT (decide ((↑i : Int) < (↑(List.length l) : Int))) (RQ (0 ≤ (↑i : Int) ∧ (↑i : Int) < (↑(List.length l) : Int)) (RQ ((NmG l g ∧ i < List.length l) ∧ oDn l (List.length l) = oDn l (List.length l) ∧ (↑i : Int) = (↑i : Int) ∧ l = l ∧ (↑(List.length l) : Int) = (↑(List.length l) : Int) ∧ (↑i : Int) = (↑i : Int) ∧ (List.getD l (Int.toNat (↑i : Int)) (RT.dflt RT.obj)).crels = (obN l i).crels ∧ (↑(List.length (List.getD l (Int.toNat (↑i : Int)) (RT.dflt RT.obj)).crels) : Int) = (↑(List.length (obN l i).crels) : Int) ∧ (0 : Int) = (↑(0 : Nat) : Int) ∧ l = l ∧ some g = some g ∧ oDa l (List.length l) = oDa l (List.length l) ∧ brO l g i = brJ l g i (brO l g i) (0 : Nat) ∧ oOw l (List.length l) = oOw l (List.length l) ∧ imL l = imL l) (i < List.length l ∧ True ∧ oDn l (List.length l) = oDn l (List.length l) ∧ l = l ∧ (↑(List.length l) : Int) = (↑(List.length l) : Int) ∧ (↑i : Int) + 1 = (↑(i + 1) : Int) ∧ (0 ≤ (↑(i + 1) : Int) ∧ (↑(i + 1) : Int) ≤ 1000000) ∧ l = l ∧ some g = some g ∧ oDa l (List.length l) = oDa l (List.length l) ∧ brO l g (i + 1) = brO l g (i + 1) ∧ oOw l (List.length l) = oOw l (List.length l) ∧ imL l = imL l))) (Nat.beq (4 : Nat) (4 : Nat) = true ∧ oDn l (List.length l) = oDn l (List.length l) ∧ l = l ∧ some g = some g ∧ oDa l (List.length l) = oDa l (List.length l) ∧ brO l g i = itF l g ∧ oOw l (List.length l) = oOw l (List.length l) ∧ imL l = imL l)) := by kernel_rfl
set_option maxHeartbeats 4000000 in
theorem llyB (l : List Ob) (g : Glb) {W : World} {R own0 : Nat → Prop} {ρ0 : Nat → Option Value} (hown : HownOk (envK (G7 ++ rest) [(43, kInstr), (44, kTables), (45, kTwo), (34, kkreal), (35, kksym), (46, kDo12B), (47, kPlacesB)] 2) own0 ρ0) : LOk Tryz.prog (envK (G7 ++ rest) [(43, kInstr), (44, kTables), (45, kTwo), (34, kkreal), (35, kksym), (46, kDo12B), (47, kPlacesB)] 2) (ctx ea has) (G7 ++ rest) W R own0 ρ0 (loopN (bodyOf Tryz.f32) 1) (LlyB l g) := by
 refine loop1_ok (J := fun _ => True) (N := l.length) (H := HlyB l g) (X := XlyB l g) (envK_ok (con := [(43, kInstr), (44, kTables), (45, kTwo), (34, kkreal), (35, kksym), (46, kDo12B), (47, kPlacesB)]) ⟨cInstr, cTables, cTwo, ckreal, cksym, cDo12B, cPlacesB, trivial⟩) hown (ls := fun i => [(25, LlyJ l g i)]) (fun i => hl1 (by kernel_rfl) (by kernel_rfl) (llyJ l g i hown)) (fun hm i hi hj => ?_) 0 (fun hm => by first | exact Nat.zero_le _ | omega) (fun hm => trivial)
 rw [blyB rest l g i]
 delta RQ IT
 simp only [Int.toNat_natCast, eq_self, true_and, and_true]
 have hf := hm.few
 refine ⟨fun h => ?_, fun h => ?_⟩
 ·have h := of_decide_eq_true h
  have hlt : i < l.length := by omega
  exact ⟨by omega, fun _ => ⟨⟨⟨hm, hlt⟩, rfl, rfl⟩, fun _ => ⟨hlt, by omega, by omega⟩⟩⟩
 ·have h := of_decide_eq_false h
  have : i = l.length := by omega
  subst this
  exact ⟨rfl, rfl⟩
def HlyC (l : List Ob) (g : Glb) (i : Nat) : SState := { fr := [(0, .ptr 0 0), (3, .int .i64 (.sym (oDn l l.length) 0 1000000)), (18, .int .i64 (.sym (sumS (itF l g) i) 0 1000000)), (177, .own 3), (178, .int .i64 (.full (itF l g).length)), (179, .int .i64 (.sym i 0 1000000))], hp := lyHp l g (oDa l l.length) (itF l g) (oOw l l.length) (imL l), next := 6, sz := 232 }
def XlyC (l : List Ob) (g : Glb) : SState := { fr := [(0, .ptr 0 0), (3, .int .i64 (.sym (oDn l l.length) 0 1000000)), (18, .int .i64 (.sym (sumS (itF l g) (itF l g).length) 0 1000000))], hp := lyHp l g (oDa l l.length) (itF l g) (oOw l l.length) (imL l), next := 6, sz := 232 }
def LlyC (l : List Ob) (g : Glb) : LSum := ⟨HlyC l g 0, fun k => k (.exit 8) (XlyC l g), NmG l g⟩
theorem blyC (rest : List (Nat × SVal)) (l : List Ob) (g : Glb) (i : Nat) : (Tr.sat (rnd1 (envK (G7 ++ rest) [(43, kInstr), (44, kTables), (45, kTwo), (34, kkreal), (35, kksym), (46, kDo12B), (47, kPlacesB)] 2) (fun _ => True) ((itF l g).length) (HlyC l g) 8 (XlyC l g) i) (run (envK (G7 ++ rest) [(43, kInstr), (44, kTables), (45, kTwo), (34, kkreal), (35, kksym), (46, kDo12B), (47, kPlacesB)] 2) [] (loopN (bodyOf Tryz.f32) 2) (HlyC l g i) .leaf)) = (
 IT (decide ((↑i : Int) < (↑(List.length (itF l g)) : Int))) (RQ (0 ≤ (↑i : Int) ∧ (↑i : Int) < (↑(List.length (itF l g)) : Int)) (i < List.length (itF l g) ∧ True ∧ oDn l (List.length l) = oDn l (List.length l) ∧ IntKind.wrap IntKind.i64 (sumS (itF l g) i + (List.getD (itF l g) (Int.toNat (↑i : Int)) (RT.dflt (RT.flat (FK.int IntKind.i64) [FK.int IntKind.i64, FK.bool]))).fst) = sumS (itF l g) (i + 1) ∧ (0 ≤ sumS (itF l g) (i + 1) ∧ sumS (itF l g) (i + 1) ≤ 1000000) ∧ (↑(List.length (itF l g)) : Int) = (↑(List.length (itF l g)) : Int) ∧ (↑i : Int) + 1 = (↑(i + 1) : Int) ∧ (0 ≤ (↑(i + 1) : Int) ∧ (↑(i + 1) : Int) ≤ 1000000) ∧ l = l ∧ some g = some g ∧ oDa l (List.length l) = oDa l (List.length l) ∧ itF l g = itF l g ∧ oOw l (List.length l) = oOw l (List.length l) ∧ imL l = imL l)) (Nat.beq (8 : Nat) (8 : Nat) = true ∧ oDn l (List.length l) = oDn l (List.length l) ∧ sumS (itF l g) i = sumS (itF l g) (List.length (itF l g)) ∧ l = l ∧ some g = some g ∧ oDa l (List.length l) = oDa l (List.length l) ∧ itF l g = itF l g ∧ oOw l (List.length l) = oOw l (List.length l) ∧ imL l = imL l)) := by kernel_rfl
set_option maxHeartbeats 4000000 in
theorem llyC (l : List Ob) (g : Glb) {W : World} {R own0 : Nat → Prop} {ρ0 : Nat → Option Value} (hown : HownOk (envK (G7 ++ rest) [(43, kInstr), (44, kTables), (45, kTwo), (34, kkreal), (35, kksym), (46, kDo12B), (47, kPlacesB)] 2) own0 ρ0) : LOk Tryz.prog (envK (G7 ++ rest) [(43, kInstr), (44, kTables), (45, kTwo), (34, kkreal), (35, kksym), (46, kDo12B), (47, kPlacesB)] 2) (ctx ea has) (G7 ++ rest) W R own0 ρ0 (loopN (bodyOf Tryz.f32) 2) (LlyC l g) := by
 refine loop1_ok (J := fun _ => True) (N := (itF l g).length) (H := HlyC l g) (X := XlyC l g) (envK_ok (con := [(43, kInstr), (44, kTables), (45, kTwo), (34, kkreal), (35, kksym), (46, kDo12B), (47, kPlacesB)]) ⟨cInstr, cTables, cTwo, ckreal, cksym, cDo12B, cPlacesB, trivial⟩) hown (ls := fun i => []) (fun i => noSums (by kernel_rfl)) (fun hm i hi hj => ?_) 0 (fun hm => by first | exact Nat.zero_le _ | omega) (fun hm => trivial)
 rw [blyC rest l g i]
 delta RQ IT
 simp only [Int.toNat_natCast, eq_self, true_and, and_true]
 have hL : (itF l g).length = oBs l l.length := brO_len l g l.length
 obtain ⟨b1, _⟩ := hm.bs (Nat.le_refl _)
 refine ⟨fun h => ?_, fun h => ?_⟩
 ·have h := of_decide_eq_true h
  have hlt : i < (itF l g).length := by omega
  have s1 := sumS_le l g i (by omega)
  have s2 := itF_size l g (show i < oBs l l.length by omega)
  have s3 : sumS (itF l g) (i + 1) = sumS (itF l g) i + itS (itF l g) i := rfl
  have w : IntKind.i64.wrap (sumS (itF l g) i + itS (itF l g) i) = sumS (itF l g) (i + 1) := by rw [IntKind.wrap_i64, s3]; omega
  exact ⟨by omega, fun _ => ⟨hlt, w, by omega, by omega, by omega⟩⟩
 ·have h := of_decide_eq_false h
  have : i = (itF l g).length := by omega
  exact ⟨rfl, by rw [← this]⟩
def klay : List SVal → Nat → Acc ORes := fun a n => match a with
 | [.ptr q 0] => .look q fun cc => match cc with | some (.cells [.ro .obj l, .map m, .nilslice, .nilslice, .nilslice, .nilslice, .nilslice, .nilslice]) => (.look m fun cc => match cc with | some (.gmap .str (.flat (.int .i64) [.int .i64]) g) => (match nodupB [q, m] with | true => .ret (genR [q, m] (gone []) n (.err (layE l g)) ([(0, .cells [.ro .obj l, .map 1, .own 2, .own 3, .own 4, .own 5, .own 7, .own 6]), (1, .gmap .str spT g), (2, .recs .i64 (oDa l l.length)), (3, .recs itT (itF l g)), (4, .recs spT (oOw l l.length)), (5, .recs imT (imL l)), (6, .recs .bool (loL l g)), (7, .recs .i64 (plLk l g))]) 6 (some (NmG l g))) | false => .fail "lay") | _ => .fail "lay") | _ => .fail "lay"
 | _ => .fail "lay"
theorem fitlay (rest : List (Nat × SVal)) (l : List Ob) (g : Glb) : (fits (envK (G7 ++ rest) [(43, kInstr), (44, kTables), (45, kTwo), (34, kkreal), (35, kksym), (46, kDo12B), (47, kPlacesB)] 2) (S1 [.ptr 0 0] (numC 0 [.cells [.ro .obj l, .map 1, .nilslice, .nilslice, .nilslice, .nilslice, .nilslice, .nilslice], .gmap .str (.flat (.int .i64) [.int .i64]) g]) 2 232) (S1 [.ptr 0 0] [(0, some (.cells [.ro .obj l, .map 1, .nilslice, .nilslice, .nilslice, .nilslice, .nilslice, .nilslice])), (1, some (.gmap .str spT g))] 2 232)) = (
 l = l ∧ some g = some g) := by kernel_rfl
abbrev Tlay (rest : List (Nat × SVal)) (l : List Ob) (g : Glb) : Prop := Tr.sat (newQ (envK (G7 ++ rest) [(43, kInstr), (44, kTables), (45, kTwo), (34, kkreal), (35, kksym), (46, kDo12B), (47, kPlacesB)] 2) (.err (layE l g)) ([(0, .cells [.ro .obj l, .map 1, .own 2, .own 3, .own 4, .own 5, .own 7, .own 6]), (1, .gmap .str spT g), (2, .recs .i64 (oDa l l.length)), (3, .recs itT (itF l g)), (4, .recs spT (oOw l l.length)), (5, .recs imT (imL l)), (6, .recs .bool (loL l g)), (7, .recs .i64 (plLk l g))]) (2 + 6)) (run (envK (G7 ++ rest) [(43, kInstr), (44, kTables), (45, kTwo), (34, kkreal), (35, kksym), (46, kDo12B), (47, kPlacesB)] 2) [(3, LlyA l g), (22, LlyB l g), (35, LlyC l g)] (bodyOf Tryz.f32) (S1 [.ptr 0 0] [(0, some (.cells [.ro .obj l, .map 1, .nilslice, .nilslice, .nilslice, .nilslice, .nilslice, .nilslice])), (1, some (.gmap .str spT g))] 2 232) (ends (envK (G7 ++ rest) [(43, kInstr), (44, kTables), (45, kTwo), (34, kkreal), (35, kksym), (46, kDo12B), (47, kPlacesB)] 2) Tryz.f32.results.toList))
theorem runlay (rest : List (Nat × SVal)) (l : List Ob) (g : Glb) : (Tlay rest l g) = (
 RQ (NmG l g ∧ (0 : Int) = oDn l (0 : Nat) ∧ l = l ∧ (↑(List.length l) : Int) = (↑(List.length l) : Int) ∧ (0 : Int) = (↑(0 : Nat) : Int) ∧ l = l ∧ some g = some g ∧ oDa l (0 : Nat) = @List.nil (RT.ty RT.i64) ∧ oIt l (0 : Nat) = @List.nil (RT.ty itT) ∧ oOw l (0 : Nat) = @List.nil (RT.ty spT) ∧ oIm l (0 : Nat) = @List.nil (RT.ty imT)) (RQ (NmG l g ∧ oDn l (List.length l) = oDn l (List.length l) ∧ l = l ∧ (↑(List.length l) : Int) = (↑(List.length l) : Int) ∧ (0 : Int) = (↑(0 : Nat) : Int) ∧ l = l ∧ some g = some g ∧ oDa l (List.length l) = oDa l (List.length l) ∧ oIt l (List.length l) = brO l g (0 : Nat) ∧ oOw l (List.length l) = oOw l (List.length l) ∧ oIm l (List.length l) = imL l) (RQ (NmG l g ∧ oDn l (List.length l) = oDn l (List.length l) ∧ (0 : Int) = sumS (itF l g) (0 : Nat) ∧ (↑(List.length (itF l g)) : Int) = (↑(List.length (itF l g)) : Int) ∧ (0 : Int) = (↑(0 : Nat) : Int) ∧ l = l ∧ some g = some g ∧ oDa l (List.length l) = oDa l (List.length l) ∧ itF l g = itF l g ∧ oOw l (List.length l) = oOw l (List.length l) ∧ imL l = imL l) (IT (decide ((2048 : Int) < oDn l (List.length l)) || decide ((2048 : Int) < sumS (itF l g) (List.length (itF l g)))) (FErr.bare (104 : Int) = layE l g ∧ l = l ∧ some g = some g ∧ oDa l (List.length l) = oDa l (List.length l) ∧ itF l g = itF l g ∧ oOw l (List.length l) = oOw l (List.length l) ∧ imL l = imL l ∧ loL l g = @List.nil (RT.ty RT.bool) ∧ plLk l g = @List.nil (RT.ty RT.i64)) (RQ (ItOk (itF l g) ∧ TgOk (itF l g)) (RQ (ItOk (itF l g) ∧ List.length (rlx (itF l g)) = List.length (itF l g)) (RQ (0 ≤ (↑(List.length (itF l g)) : Int) ∧ (↑(List.length (itF l g)) : Int) < (↑(List.length (plA (itF l g) (rlx (itF l g)))) : Int)) (IT (decide ((2048 : Int) < List.getD (plA (itF l g) (rlx (itF l g))) (Int.toNat (↑(List.length (itF l g)) : Int)) (RT.dflt RT.i64))) (FErr.bare (104 : Int) = layE l g ∧ l = l ∧ some g = some g ∧ oDa l (List.length l) = oDa l (List.length l) ∧ itF l g = itF l g ∧ oOw l (List.length l) = oOw l (List.length l) ∧ imL l = imL l ∧ rlx (itF l g) = loL l g ∧ plA (itF l g) (rlx (itF l g)) = plLk l g) (FErr.fine = layE l g ∧ l = l ∧ some g = some g ∧ oDa l (List.length l) = oDa l (List.length l) ∧ itF l g = itF l g ∧ oOw l (List.length l) = oOw l (List.length l) ∧ imL l = imL l ∧ rlx (itF l g) = loL l g ∧ plA (itF l g) (rlx (itF l g)) = plLk l g))))))))) := by kernel_rfl
set_option maxHeartbeats 4000000 in
theorem glay (l : List Ob) (g : Glb) (hv : NmG l g) : Box (Tlay rest l g) := by
 refine .of (runlay rest l g) ?_
 delta RQ IT
 simp only [Int.toNat_natCast, eq_self, true_and, and_true]
 have hE : layE l g = _ := layE.eq_1 l g
 have hlo : loL l g = _ := loL.eq_1 l g
 have hpl : plLk l g = _ := plLk.eq_1 l g
 refine ⟨⟨hv, rfl, rfl, rfl, rfl, rfl, rfl⟩, fun _ => ⟨⟨hv, rfl, rfl⟩, fun _ => ⟨⟨hv, rfl, rfl⟩, fun _ => ⟨fun h1 => ?_, fun h1 => ?_⟩⟩⟩⟩
 ·have h1 : manyL l g = true := h1
  rw [if_pos h1] at hE hlo hpl
  exact ⟨hE.symm, hlo, hpl⟩
 ·have h1 : manyL l g = false := h1
  rw [if_neg (by rw [h1]; simp)] at hE hlo hpl
  obtain ⟨k1, k2, k3⟩ := itF_ok hv h1
  have hp : (plA (itF l g) (rlx (itF l g))).length = (itF l g).length + 1 := plL_len _ _ _
  have hg : (plA (itF l g) (rlx (itF l g))).getD (itF l g).length RT.i64.dflt = plS (itF l g) (rlx (itF l g)) (itF l g).length := plL_get _ _ _ _ (Nat.lt_succ_self _)
  rw [hp]
  refine ⟨⟨k1, k2⟩, fun _ => ⟨⟨k1, rlx_len _⟩, fun _ => ⟨⟨by omega, by omega⟩, fun _ => ⟨fun h2 => ?_, fun h2 => ?_⟩⟩⟩⟩
  ·have h2 := of_decide_eq_true h2
   rw [hg] at h2
   rw [if_pos h2] at hE
   exact ⟨hE.symm, hlo.symm, hpl.symm⟩
  ·have h2 := of_decide_eq_false h2
   rw [hg] at h2
   rw [if_neg h2] at hE
   exact ⟨hE.symm, hlo.symm, hpl.symm⟩
set_option maxHeartbeats 4000000 in
theorem clay : Con ea has (G7 ++ rest) 32 klay := by
 refine gen_mk Tryz.func32 232 2 (con := [(43, kInstr), (44, kTables), (45, kTwo), (34, kkreal), (35, kksym), (46, kDo12B), (47, kPlacesB)]) ⟨cInstr, cTables, cTwo, ckreal, cksym, cDo12B, cPlacesB, trivial⟩ (fun hA hr hv => ?_) (by kernel_rfl) (by kernel_rfl) Tryz.ntmps32
 unfold klay at hr; split at hr
 ·rename_i q
  simp only [Acc.run] at hr
  split at hr
  ·rename_i l m hq
   simp only [Acc.run] at hr
   split at hr
   ·rename_i g hm
    split at hr
    ·rename_i hnd
     have := ret_ok hr; subst this
     refine ⟨[q, m], [], [.cells [.ro .obj l, .map 1, .nilslice, .nilslice, .nilslice, .nilslice, .nilslice, .nilslice], .gmap .str (.flat (.int .i64) [.int .i64]) g], [.ptr 0 0], (S1 [.ptr 0 0] [(0, some (.cells [.ro .obj l, .map 1, .nilslice, .nilslice, .nilslice, .nilslice, .nilslice, .nilslice])), (1, some (.gmap .str spT g))] 2 232), [(3, LlyA l g), (22, LlyB l g), (35, LlyC l g)], .err (layE l g), [(0, .cells [.ro .obj l, .map 1, .own 2, .own 3, .own 4, .own 5, .own 7, .own 6]), (1, .gmap .str spT g), (2, .recs .i64 (oDa l l.length)), (3, .recs itT (itF l g)), (4, .recs spT (oOw l l.length)), (5, .recs imT (imL l)), (6, .recs .bool (loL l g)), (7, .recs .i64 (plLk l g))], 6, rfl, rfl, ⟨rfl, rfl, rfl⟩, hnd, ⟨hq, hm, trivial⟩, rfl, rfl, .of (fitlay rest l g) (by simp [nilR]), rfl, (fun W R ρ0 own0 hown => hl3 (by kernel_rfl) (by kernel_rfl) (llyA l g hown) (by kernel_rfl) (llyB l g hown) (by kernel_rfl) (llyC l g hown)), glay l g (hv _ rfl)⟩
    ·cases hr
   ·cases hr
  ·cases hr
 ·cases hr
end
end Go.Proofs.YtacmmedhjebfjaaGreatDoor
set_option linter.unusedVariables false
set_option linter.unusedSimpArgs false
set_option linter.unusedSectionVars false
namespace Go.Proofs.YtacmmedhjebfjaaGreatDoor
open Go.RowKit Go.Sy Go.Fac
section
variable {ea : Ear} {has : Int → Prop} {rest : List (Nat × SVal)} [ht : Nonempty (EType ea)]
abbrev lkV (l : List Ob) (g : Glb) (da : List Int) (its : List itT.ty) (ow : List (Int × Int)) (im : List (Option Mp)) (pl : List Int) (lo : List Bool) : SVal := .rop [.ro .obj l, .rom .str spT (some g), .ro .i64 da, .ro itT its, .ro spT ow, .ro imT im, .ro .i64 pl, .ro .bool lo]
structure LkV (l : List Ob) (g : Glb) (da : List Int) (its : List itT.ty) (ow : List (Int × Int)) (im : List (Option Mp)) (pl : List Int) (lo : List Bool) : Prop where
 ok : LkOk l g
 da : da = oDa l l.length
 its : its = itF l g
 ow : ow = oOw l l.length
 im : im = imL l
 pl : pl = plF l g
 lo : lo = loF l g
def kaddress : List SVal → Nat → Acc ORes := fun a n => match a with | [.rop [.ro .obj l, .rom .str (.flat (.int .i64) [.int .i64]) (some g), .ro .i64 da, .ro (.flat (.int .i64) [.int .i64, .bool]) its, .ro (.flat (.int .i64) [.int .i64]) ow, .ro (.fmap (.int .i64) .i64) im, .ro .i64 pl, .ro .bool lo], .agg [.int .i64 o, .int .i64 s]] => .ret ({ v := .int .u32 (.full (adrL l g (o.val, s.val))), vc := some (LkV l g da its ow im pl lo ∧ Own l (o.val, s.val)) }) | _ => .fail "address"
theorem argaddress (l : List Ob) (g : Glb) (da : List Int) (its : List itT.ty) (ow : List (Int × Int)) (im : List (Option Mp)) (pl : List Int) (lo : List Bool) (o s : SI) : (all (subL tAtN none' [] deep [.rop [.ro .obj l, .rom .str (.flat (.int .i64) [.int .i64]) (some g), .ro .i64 da, .ro (.flat (.int .i64) [.int .i64, .bool]) its, .ro (.flat (.int .i64) [.int .i64]) ow, .ro (.fmap (.int .i64) .i64) im, .ro .i64 pl, .ro .bool lo], .agg [.int .i64 o, .int .i64 s]] [lkV l g da its ow im pl lo, .agg [.int .i64 (.full o.val), .int .i64 (.full s.val)]])) = (
 l = l ∧ some g = some g ∧ da = da ∧ its = its ∧ ow = ow ∧ im = im ∧ pl = pl ∧ lo = lo ∧ SI.val o = SI.val o ∧ SI.val s = SI.val s) := by kernel_rfl
theorem runaddress (rest : List (Nat × SVal)) (l : List Ob) (g : Glb) (da : List Int) (its : List itT.ty) (ow : List (Int × Int)) (im : List (Option Mp)) (pl : List Int) (lo : List Bool) (o : Int) (s : Int) : (Tr.sat (plainQ (.int .u32 (.full (adrL l g (o, s))))) (run (env (G7 ++ rest) [(35, kksym)]) [] (bodyOf Tryz.f33) (start [lkV l g da its ow im pl lo, .agg [.int .i64 (.full o), .int .i64 (.full s)]] 43) (ends (env (G7 ++ rest) [(35, kksym)]) Tryz.f33.results.toList))) = (
 RQ (0 ≤ o ∧ o < (↑(List.length l) : Int) ∧ 0 ≤ s ∧ s < (↑(List.length (List.getD l (Int.toNat o) (RT.dflt RT.obj)).syms) : Int)) (IT (decide ((symAt l o s).in_ = 1)) (RQ (0 ≤ o ∧ o < (↑(List.length da) : Int)) (IntKind.wrap IntKind.u32 (IntKind.wrap IntKind.i64 (List.getD da (Int.toNat o) (RT.dflt RT.i64) + (symAt l o s).value)) = adrL l g (o, s))) (RQ (0 ≤ o ∧ o < (↑(List.length im) : Int)) (RQ (0 ≤ gGet (RT.dflt RT.i64) (Option.getD (List.getD im (Int.toNat o) (RT.dflt (RT.fmap (FK.int IntKind.i64) RT.i64))) (@List.nil (FK.ty (FK.int IntKind.i64) × RT.ty RT.i64))) (symAt l o s).value ∧ gGet (RT.dflt RT.i64) (Option.getD (List.getD im (Int.toNat o) (RT.dflt (RT.fmap (FK.int IntKind.i64) RT.i64))) (@List.nil (FK.ty (FK.int IntKind.i64) × RT.ty RT.i64))) (symAt l o s).value < (↑(List.length pl) : Int)) (IntKind.wrap IntKind.u32 (IntKind.wrap IntKind.i64 ((2048 : Int) + List.getD pl (Int.toNat (gGet (RT.dflt RT.i64) (Option.getD (List.getD im (Int.toNat o) (RT.dflt (RT.fmap (FK.int IntKind.i64) RT.i64))) (@List.nil (FK.ty (FK.int IntKind.i64) × RT.ty RT.i64))) (symAt l o s).value)) (RT.dflt RT.i64))) = adrL l g (o, s)))))) := by kernel_rfl
set_option maxHeartbeats 4000000 in
theorem caddress : Con ea has (G7 ++ rest) 33 kaddress := by
 refine plain_mkB Tryz.func33 43 (con := [(35, kksym)]) ⟨cksym, trivial⟩ (fun hA hr hv => ?_) (by kernel_rfl) (by kernel_rfl) Tryz.ntmps33
 unfold kaddress at hr; split at hr
 ·rename_i l g da its ow im pl lo o s
  have := ret_ok hr; subst this
  replace hv := hv _ rfl
  refine ⟨_, [], rfl, rfl, .of (argaddress l g da its ow im pl lo o s) (by simp), rfl, (fun W R ρ0 own0 hown => noSums (by kernel_rfl)), .of (runaddress rest l g da its ow im pl lo o.val s.val) ?_⟩
  delta RQ IT
  clear hr
  clear hA
  generalize o.val = o at *
  generalize s.val = s at *
  obtain ⟨⟨K, rfl, rfl, rfl, rfl, rfl, rfl⟩, O⟩ := hv
  have A := K.adr O
  obtain ⟨o', s', e, ho, hs, h3⟩ := O
  simp only [Prod.mk.injEq] at e
  obtain ⟨rfl, rfl⟩ := e
  have eA : adrL l g (((o' : Nat) : Int), ((s' : Nat) : Int)) = _ := adrL.eq_1 l g _
  simp only [Int.toNat_natCast, symAt_nat] at eA ⊢
  have hd : (oDa l l.length).length = l.length := oDa_len l _
  have hi : (imL l).length = l.length := oIm_len l _
  have hp : (plF l g).length = (itF l g).length + 1 := plL_len _ _ _
  refine ⟨⟨by omega, by omega, by omega, by show ((s' : Nat) : Int) < ((obN l o').syms.length : Nat); omega⟩, fun _ => ⟨fun h1 => ⟨by omega, fun _ => ?_⟩, fun h1 => ⟨by omega, fun _ => ?_⟩⟩⟩
  ·have h1 := of_decide_eq_true h1
   rw [if_pos h1] at eA
   have e1 : (oDa l l.length).getD o' RT.i64.dflt = oDn l o' := oDa_get l _ _ _ ho
   rw [e1, IntKind.wrap_u32, IntKind.wrap_i64]; omega
  ·have h1 := of_decide_eq_false h1
   rw [if_neg h1] at eA
   rcases Own.in12 K.nm ho hs h3 with h | h
   ·exact absurd h h1
   ·obtain ⟨g1, g2, g3, g4, g5⟩ := K.code ho hs h
    have e2 : (plF l g).getD (pix l o' (syO l o' s').value.toNat) RT.i64.dflt = plN l g (pix l o' (syO l o' s').value.toNat) := plL_get _ _ _ _ (by omega)
    refine ⟨?_, fun _ => ?_⟩
    ·show 0 ≤ im1 (imL l) ((o' : Nat) : Int) (syO l o' s').value ∧ im1 (imL l) ((o' : Nat) : Int) (syO l o' s').value < _
     rw [g4, hp]; omega
    ·show IntKind.u32.wrap (IntKind.i64.wrap (2048 + (plF l g).getD (im1 (imL l) ((o' : Nat) : Int) (syO l o' s').value).toNat RT.i64.dflt)) = _
     rw [g4, Int.toNat_natCast]
     rw [e2, IntKind.wrap_u32, IntKind.wrap_i64]; omega
 ·cases hr
abbrev imHp (x : Img) : List (Nat × Cont) := [(0, .cells [.int .u32 (.full x.entry), .own 1, .own 2, .own 3, .own 4, .own 5]), (1, .recs .u32 x.data), (2, .recs .u32 x.code), (3, .recs .i64 x.drefs), (4, .recs .i64 x.places), (5, .recs .i64 x.starts)]
abbrev imHpO (x : Img) : List (Nat × Option Cont) := [(0, some (.cells [.int .u32 (.full x.entry), .own 1, .own 2, .own 3, .own 4, .own 5])), (1, some (.recs .u32 x.data)), (2, some (.recs .u32 x.code)), (3, some (.recs .i64 x.drefs)), (4, some (.recs .i64 x.places)), (5, some (.recs .i64 x.starts))]
def imFew (x : Img) : Prop := x.code.length ≤ 100000 ∧ x.places.length ≤ 100000 ∧ x.starts.length ≤ 100000
def klkword : List SVal → Nat → Acc ORes := fun a n => match a with
 | [.rop [.ro .obj l, .rom .str (.flat (.int .i64) [.int .i64]) (some g), .ro .i64 da, .ro (.flat (.int .i64) [.int .i64, .bool]) its, .ro (.flat (.int .i64) [.int .i64]) ow, .ro (.fmap (.int .i64) .i64) im, .ro .i64 pl, .ro .bool lo], .ptr q 0, .int .i64 o, .int .i64 a, .ro (.fmap (.int .i64) .rel) rs] => .look q fun cc => match cc with | some (.cells [.int .u32 en, .own d, .own c, .own z, .own p, .own s]) => (.look d fun cc => match cc with | some (.recs .u32 D) => (.look c fun cc => match cc with | some (.recs .u32 C) => (.look z fun cc => match cc with | some (.recs .i64 Z) => (.look p fun cc => match cc with | some (.recs .i64 P) => (.look s fun cc => match cc with | some (.recs .i64 S) => (match nodupB [q, d, c, z, p, s] with | true => .ret (genR [q] (gone [d, c, z, p, s]) n (.tuple []) ((imHp (wdM l g o.val a.val (⟨en.val, D, C, Z, P, S⟩ : Img)))) 5 (some (LkV l g da its ow im pl lo ∧ rs = rsL l ∧ imFew (⟨en.val, D, C, Z, P, S⟩ : Img) ∧ 0 ≤ o.val ∧ o.val < l.length ∧ 0 ≤ a.val ∧ a.val < (obN l o.val.toNat).code.length))) | false => .fail "lkword") | _ => .fail "lkword") | _ => .fail "lkword") | _ => .fail "lkword") | _ => .fail "lkword") | _ => .fail "lkword") | _ => .fail "lkword"
 | _ => .fail "lkword"
theorem fitlkword (rest : List (Nat × SVal)) (l : List Ob) (g : Glb) (da : List Int) (its : List itT.ty) (ow : List (Int × Int)) (im : List (Option Mp)) (pl : List Int) (lo : List Bool) (o a : SI) (rs : List (Option Rmp)) (en : SI) (D C Z P S : List Int) : (fits (envK (G7 ++ rest) [(34, kkreal), (33, kaddress), (35, kksym)] 1) (S1 [.rop [.ro .obj l, .rom .str (.flat (.int .i64) [.int .i64]) (some g), .ro .i64 da, .ro (.flat (.int .i64) [.int .i64, .bool]) its, .ro (.flat (.int .i64) [.int .i64]) ow, .ro (.fmap (.int .i64) .i64) im, .ro .i64 pl, .ro .bool lo], .ptr 0 0, .int .i64 o, .int .i64 a, .ro (.fmap (.int .i64) .rel) rs] (numC 0 [.cells [.int .u32 en, .own 1, .own 2, .own 3, .own 4, .own 5], .recs .u32 D, .recs .u32 C, .recs .i64 Z, .recs .i64 P, .recs .i64 S]) 6 81) (S1 [lkV l g da its ow im pl lo, .ptr 0 0, .int .i64 (.full o.val), .int .i64 (.full a.val), .ro rlT rs] (imHpO (⟨en.val, D, C, Z, P, S⟩ : Img)) 6 81)) = (
 l = l ∧ some g = some g ∧ da = da ∧ its = its ∧ ow = ow ∧ im = im ∧ pl = pl ∧ lo = lo ∧ SI.val o = SI.val o ∧ SI.val a = SI.val a ∧ rs = rs ∧ SI.val en = SI.val en ∧ D = D ∧ C = C ∧ Z = Z ∧ P = P ∧ S = S) := by kernel_rfl
abbrev Tlkword (rest : List (Nat × SVal)) (l : List Ob) (g : Glb) (da : List Int) (its : List itT.ty) (ow : List (Int × Int)) (im : List (Option Mp)) (pl : List Int) (lo : List Bool) (o a : Int) (rs : List (Option Rmp)) (x : Img) : Prop := Tr.sat (newQ (envK (G7 ++ rest) [(34, kkreal), (33, kaddress), (35, kksym)] 1) (.tuple []) ((imHp (wdM l g o a x))) (1 + 5)) (run (envK (G7 ++ rest) [(34, kkreal), (33, kaddress), (35, kksym)] 1) [] (bodyOf Tryz.f48) (S1 [lkV l g da its ow im pl lo, .ptr 0 0, .int .i64 (.full o), .int .i64 (.full a), .ro rlT rs] (imHpO x) 6 81) (ends (envK (G7 ++ rest) [(34, kkreal), (33, kaddress), (35, kksym)] 1) Tryz.f48.results.toList))
theorem runlkword (rest : List (Nat × SVal)) (l : List Ob) (g : Glb) (da : List Int) (its : List itT.ty) (ow : List (Int × Int)) (im : List (Option Mp)) (pl : List Int) (lo : List Bool) (o a : Int) (rs : List (Option Rmp)) (x : Img) : (Tlkword rest l g da its ow im pl lo o a rs x) = (
 RQ (0 ≤ o ∧ o < (↑(List.length l) : Int)) (RQ (0 ≤ a ∧ a < (↑(List.length (List.getD l (Int.toNat o) (RT.dflt RT.obj)).code) : Int)) (RQ (0 ≤ o ∧ o < (↑(List.length rs) : Int)) (IT (gHas (Option.getD (List.getD rs (Int.toNat o) (RT.dflt (RT.fmap (FK.int IntKind.i64) RT.rel))) (@List.nil (FK.ty (FK.int IntKind.i64) × RT.ty RT.rel))) a && decide ((gGet (RT.dflt RT.rel) (Option.getD (List.getD rs (Int.toNat o) (RT.dflt (RT.fmap (FK.int IntKind.i64) RT.rel))) (@List.nil (FK.ty (FK.int IntKind.i64) × RT.ty RT.rel))) a).kind = 1)) (RQ (0 ≤ o ∧ o < (↑(List.length l) : Int) ∧ 0 ≤ (gGet (RT.dflt RT.rel) (Option.getD (List.getD rs (Int.toNat o) (RT.dflt (RT.fmap (FK.int IntKind.i64) RT.rel))) (@List.nil (FK.ty (FK.int IntKind.i64) × RT.ty RT.rel))) a).sym ∧ (gGet (RT.dflt RT.rel) (Option.getD (List.getD rs (Int.toNat o) (RT.dflt (RT.fmap (FK.int IntKind.i64) RT.rel))) (@List.nil (FK.ty (FK.int IntKind.i64) × RT.ty RT.rel))) a).sym < (↑(List.length (List.getD l (Int.toNat o) (RT.dflt RT.obj)).syms) : Int)) (RQ (LkV l g da its ow im pl lo ∧ Own l ((realM l g o (gGet (RT.dflt RT.rel) (Option.getD (List.getD rs (Int.toNat o) (RT.dflt (RT.fmap (FK.int IntKind.i64) RT.rel))) (@List.nil (FK.ty (FK.int IntKind.i64) × RT.ty RT.rel))) a).sym).fst, (realM l g o (gGet (RT.dflt RT.rel) (Option.getD (List.getD rs (Int.toNat o) (RT.dflt (RT.fmap (FK.int IntKind.i64) RT.rel))) (@List.nil (FK.ty (FK.int IntKind.i64) × RT.ty RT.rel))) a).sym).snd)) (RQ (0 ≤ (realM l g o (gGet (RT.dflt RT.rel) (Option.getD (List.getD rs (Int.toNat o) (RT.dflt (RT.fmap (FK.int IntKind.i64) RT.rel))) (@List.nil (FK.ty (FK.int IntKind.i64) × RT.ty RT.rel))) a).sym).fst ∧ (realM l g o (gGet (RT.dflt RT.rel) (Option.getD (List.getD rs (Int.toNat o) (RT.dflt (RT.fmap (FK.int IntKind.i64) RT.rel))) (@List.nil (FK.ty (FK.int IntKind.i64) × RT.ty RT.rel))) a).sym).fst < (↑(List.length l) : Int) ∧ 0 ≤ (realM l g o (gGet (RT.dflt RT.rel) (Option.getD (List.getD rs (Int.toNat o) (RT.dflt (RT.fmap (FK.int IntKind.i64) RT.rel))) (@List.nil (FK.ty (FK.int IntKind.i64) × RT.ty RT.rel))) a).sym).snd ∧ (realM l g o (gGet (RT.dflt RT.rel) (Option.getD (List.getD rs (Int.toNat o) (RT.dflt (RT.fmap (FK.int IntKind.i64) RT.rel))) (@List.nil (FK.ty (FK.int IntKind.i64) × RT.ty RT.rel))) a).sym).snd < (↑(List.length (List.getD l (Int.toNat (realM l g o (gGet (RT.dflt RT.rel) (Option.getD (List.getD rs (Int.toNat o) (RT.dflt (RT.fmap (FK.int IntKind.i64) RT.rel))) (@List.nil (FK.ty (FK.int IntKind.i64) × RT.ty RT.rel))) a).sym).fst) (RT.dflt RT.obj)).syms) : Int)) (IT (decide ((symAt l (realM l g o (gGet (RT.dflt RT.rel) (Option.getD (List.getD rs (Int.toNat o) (RT.dflt (RT.fmap (FK.int IntKind.i64) RT.rel))) (@List.nil (FK.ty (FK.int IntKind.i64) × RT.ty RT.rel))) a).sym).fst (realM l g o (gGet (RT.dflt RT.rel) (Option.getD (List.getD rs (Int.toNat o) (RT.dflt (RT.fmap (FK.int IntKind.i64) RT.rel))) (@List.nil (FK.ty (FK.int IntKind.i64) × RT.ty RT.rel))) a).sym).snd).in_ = 2)) (RQ (List.length x.places + List.length [(↑(List.length x.code) : Int)] ≤ 137438953472) (RQ (List.length x.code + List.length [IntKind.wrap IntKind.u32 (adrL l g ((realM l g o (gGet (RT.dflt RT.rel) (Option.getD (List.getD rs (Int.toNat o) (RT.dflt (RT.fmap (FK.int IntKind.i64) RT.rel))) (@List.nil (FK.ty (FK.int IntKind.i64) × RT.ty RT.rel))) a).sym).fst, (realM l g o (gGet (RT.dflt RT.rel) (Option.getD (List.getD rs (Int.toNat o) (RT.dflt (RT.fmap (FK.int IntKind.i64) RT.rel))) (@List.nil (FK.ty (FK.int IntKind.i64) × RT.ty RT.rel))) a).sym).snd) + IntKind.wrap IntKind.u32 (gGet (RT.dflt RT.rel) (Option.getD (List.getD rs (Int.toNat o) (RT.dflt (RT.fmap (FK.int IntKind.i64) RT.rel))) (@List.nil (FK.ty (FK.int IntKind.i64) × RT.ty RT.rel))) a).add)] ≤ 137438953472) (x.entry = (wdM l g o a x).entry ∧ x.data = (wdM l g o a x).data ∧ x.code ++ [IntKind.wrap IntKind.u32 (adrL l g ((realM l g o (gGet (RT.dflt RT.rel) (Option.getD (List.getD rs (Int.toNat o) (RT.dflt (RT.fmap (FK.int IntKind.i64) RT.rel))) (@List.nil (FK.ty (FK.int IntKind.i64) × RT.ty RT.rel))) a).sym).fst, (realM l g o (gGet (RT.dflt RT.rel) (Option.getD (List.getD rs (Int.toNat o) (RT.dflt (RT.fmap (FK.int IntKind.i64) RT.rel))) (@List.nil (FK.ty (FK.int IntKind.i64) × RT.ty RT.rel))) a).sym).snd) + IntKind.wrap IntKind.u32 (gGet (RT.dflt RT.rel) (Option.getD (List.getD rs (Int.toNat o) (RT.dflt (RT.fmap (FK.int IntKind.i64) RT.rel))) (@List.nil (FK.ty (FK.int IntKind.i64) × RT.ty RT.rel))) a).add)] = (wdM l g o a x).code ∧ x.drefs = (wdM l g o a x).drefs ∧ x.places ++ [(↑(List.length x.code) : Int)] = (wdM l g o a x).places ∧ x.starts = (wdM l g o a x).starts))) (RQ (List.length x.code + List.length [IntKind.wrap IntKind.u32 (adrL l g ((realM l g o (gGet (RT.dflt RT.rel) (Option.getD (List.getD rs (Int.toNat o) (RT.dflt (RT.fmap (FK.int IntKind.i64) RT.rel))) (@List.nil (FK.ty (FK.int IntKind.i64) × RT.ty RT.rel))) a).sym).fst, (realM l g o (gGet (RT.dflt RT.rel) (Option.getD (List.getD rs (Int.toNat o) (RT.dflt (RT.fmap (FK.int IntKind.i64) RT.rel))) (@List.nil (FK.ty (FK.int IntKind.i64) × RT.ty RT.rel))) a).sym).snd) + IntKind.wrap IntKind.u32 (gGet (RT.dflt RT.rel) (Option.getD (List.getD rs (Int.toNat o) (RT.dflt (RT.fmap (FK.int IntKind.i64) RT.rel))) (@List.nil (FK.ty (FK.int IntKind.i64) × RT.ty RT.rel))) a).add)] ≤ 137438953472) (x.entry = (wdM l g o a x).entry ∧ x.data = (wdM l g o a x).data ∧ x.code ++ [IntKind.wrap IntKind.u32 (adrL l g ((realM l g o (gGet (RT.dflt RT.rel) (Option.getD (List.getD rs (Int.toNat o) (RT.dflt (RT.fmap (FK.int IntKind.i64) RT.rel))) (@List.nil (FK.ty (FK.int IntKind.i64) × RT.ty RT.rel))) a).sym).fst, (realM l g o (gGet (RT.dflt RT.rel) (Option.getD (List.getD rs (Int.toNat o) (RT.dflt (RT.fmap (FK.int IntKind.i64) RT.rel))) (@List.nil (FK.ty (FK.int IntKind.i64) × RT.ty RT.rel))) a).sym).snd) + IntKind.wrap IntKind.u32 (gGet (RT.dflt RT.rel) (Option.getD (List.getD rs (Int.toNat o) (RT.dflt (RT.fmap (FK.int IntKind.i64) RT.rel))) (@List.nil (FK.ty (FK.int IntKind.i64) × RT.ty RT.rel))) a).add)] = (wdM l g o a x).code ∧ x.drefs = (wdM l g o a x).drefs ∧ x.places = (wdM l g o a x).places ∧ x.starts = (wdM l g o a x).starts)))))) (RQ (List.length x.code + List.length [List.getD (List.getD l (Int.toNat o) (RT.dflt RT.obj)).code (Int.toNat a) (RT.dflt RT.u32)] ≤ 137438953472) (x.entry = (wdM l g o a x).entry ∧ x.data = (wdM l g o a x).data ∧ x.code ++ [List.getD (List.getD l (Int.toNat o) (RT.dflt RT.obj)).code (Int.toNat a) (RT.dflt RT.u32)] = (wdM l g o a x).code ∧ x.drefs = (wdM l g o a x).drefs ∧ x.places = (wdM l g o a x).places ∧ x.starts = (wdM l g o a x).starts)))))) := by kernel_rfl
set_option maxHeartbeats 4000000 in
theorem glkword (l : List Ob) (g : Glb) (da : List Int) (its : List itT.ty) (ow : List (Int × Int)) (im : List (Option Mp)) (pl : List Int) (lo : List Bool) (o a : Int) (rs : List (Option Rmp)) (x : Img) (hv : LkV l g da its ow im pl lo ∧ rs = rsL l ∧ imFew x ∧ 0 ≤ o ∧ o < l.length ∧ 0 ≤ a ∧ a < (obN l o.toNat).code.length) : Box (Tlkword rest l g da its ow im pl lo o a rs x) := by
 refine .of (runlkword rest l g da its ow im pl lo o a rs x) ?_
 delta RQ IT
 obtain ⟨⟨K, rfl, rfl, rfl, rfl, rfl, rfl⟩, rfl, ⟨f1, f2, f3⟩, o1, o2, a1, a2⟩ := id hv
 have V := hv.1
 have hM : wdM l g o a x = _ := wdM.eq_1 l g o a x
 obtain ⟨o', rfl⟩ : ∃ n : Nat, o = n := ⟨o.toNat, (Int.toNat_of_nonneg o1).symm⟩
 have ho : o' < l.length := by omega
 have hrs : (rsL l).length = l.length := rsU_len l _
 have hb : (a : Int) < ((obN l ((o' : Nat) : Int).toNat).code.length : Nat) := a2
 refine ⟨⟨o1, o2⟩, fun _ => ⟨⟨a1, hb⟩, fun _ => ⟨by rw [hrs]; exact ⟨o1, o2⟩, fun _ => ⟨fun g1 => ?_, fun g1 => ?_⟩⟩⟩⟩
 ·have g1 : wdR l o' a = true := g1
  have hR := g1
  unfold wdR at hR
  rw [Bool.and_eq_true] at hR
  obtain ⟨k, k1, k2, k3⟩ := rH_is ho hR.1
  obtain ⟨c1, c2, c3, c4, _⟩ := (K.nm.val o' ho).crel k1 _ rfl
  have c3' : 0 ≤ (rG l o' a).sym := by rw [k3]; exact c3
  have c4' : (rG l o' a).sym < (obN l o').syms.length := by rw [k3]; exact c4
  have O := K.nm.own ho c3' c4'
  have hV : wdV l g o' a = u32W (adrL l g (wdTo l g o' a) + u32W (rG l o' a).add) := by unfold wdV; rw [if_pos g1]
  have hb2 : 0 ≤ (wdTo l g o' a).1 ∧ (wdTo l g o' a).1 < l.length ∧ 0 ≤ (wdTo l g o' a).2 ∧ (wdTo l g o' a).2 < ((obN l (wdTo l g o' a).1.toNat).syms.length : Nat) := by
   obtain ⟨p, q, e, h1, h2, _⟩ := O
   unfold wdTo; rw [e]
   simp only [Int.toNat_natCast]; omega
  refine ⟨⟨o1, o2, c3', c4'⟩, fun _ => ⟨⟨V, O⟩, fun _ => ⟨hb2, fun _ => ⟨fun g2 => ?_, fun g2 => ?_⟩⟩⟩⟩
  ·have hC : wdC l g o' a = true := by unfold wdC; rw [g1]; exact g2
   rw [hM, hC, hV]
   refine ⟨by simp only [List.length_singleton]; omega, fun _ => ⟨by simp only [List.length_singleton]; omega, fun _ => ⟨rfl, rfl, rfl, rfl, rfl, rfl⟩⟩⟩
  ·have hC : wdC l g o' a = false := by unfold wdC; rw [g1]; exact g2
   rw [hM, hC, hV]
   exact ⟨by simp only [List.length_singleton]; omega, fun _ => ⟨rfl, rfl, rfl, rfl, rfl, rfl⟩⟩
 ·have g1 : wdR l o' a = false := g1
  have hV : wdV l g o' a = (obN l o').code.getD a.toNat 0 := by unfold wdV; rw [if_neg (by rw [g1]; simp)]; rfl
  have hC : wdC l g o' a = false := by unfold wdC; rw [g1]; rfl
  rw [hM, hC, hV]
  exact ⟨by simp only [List.length_singleton]; omega, fun _ => ⟨rfl, rfl, rfl, rfl, rfl, rfl⟩⟩
set_option maxHeartbeats 4000000 in
theorem clkword : Con ea has (G7 ++ rest) 48 klkword := by
 refine gen_mk Tryz.func48 81 1 (con := [(34, kkreal), (33, kaddress), (35, kksym)]) ⟨ckreal, caddress, cksym, trivial⟩ (fun hA hr hv => ?_) (by kernel_rfl) (by kernel_rfl) Tryz.ntmps48
 unfold klkword at hr; split at hr
 ·rename_i l g da its ow im pl lo q o a rs
  simp only [Acc.run] at hr
  split at hr
  ·rename_i en d c z p s hq
   simp only [Acc.run] at hr
   split at hr
   ·rename_i D hd
    simp only [Acc.run] at hr
    split at hr
    ·rename_i C hc
     simp only [Acc.run] at hr
     split at hr
     ·rename_i Z hz
      simp only [Acc.run] at hr
      split at hr
      ·rename_i P hp
       simp only [Acc.run] at hr
       split at hr
       ·rename_i S hs
        split at hr
        ·rename_i hnd
         have := ret_ok hr; subst this
         refine ⟨[q], [d, c, z, p, s], [.cells [.int .u32 en, .own 1, .own 2, .own 3, .own 4, .own 5], .recs .u32 D, .recs .u32 C, .recs .i64 Z, .recs .i64 P, .recs .i64 S], [.rop [.ro .obj l, .rom .str (.flat (.int .i64) [.int .i64]) (some g), .ro .i64 da, .ro (.flat (.int .i64) [.int .i64, .bool]) its, .ro (.flat (.int .i64) [.int .i64]) ow, .ro (.fmap (.int .i64) .i64) im, .ro .i64 pl, .ro .bool lo], .ptr 0 0, .int .i64 o, .int .i64 a, .ro (.fmap (.int .i64) .rel) rs], (S1 [lkV l g da its ow im pl lo, .ptr 0 0, .int .i64 (.full o.val), .int .i64 (.full a.val), .ro rlT rs] (imHpO (⟨en.val, D, C, Z, P, S⟩ : Img)) 6 81), [], .tuple [], (imHp (wdM l g o.val a.val (⟨en.val, D, C, Z, P, S⟩ : Img))), 5, rfl, rfl, ⟨rfl, rfl, rfl⟩, hnd, ⟨hq, hd, hc, hz, hp, hs, trivial⟩, rfl, rfl, .of (fitlkword rest l g da its ow im pl lo o a rs en D C Z P S) (by simp [nilR]), rfl, (fun W R ρ0 own0 hown => noSums (by kernel_rfl)), glkword l g da its ow im pl lo o.val a.val rs ⟨en.val, D, C, Z, P, S⟩ (hv _ rfl)⟩
        ·cases hr
       ·cases hr
      ·cases hr
     ·cases hr
    ·cases hr
   ·cases hr
  ·cases hr
 ·cases hr
def HptW (l : List Ob) (g : Glb) (da : List Int) (its : List itT.ty) (ow : List (Int × Int)) (im : List (Option Mp)) (pl : List Int) (lo : List Bool) (rs : List (Option Rmp)) (n : Nat) (x : Img) (i : Nat) : SState := { fr := [(0, lkV l g da its ow im pl lo), (1, .ptr 0 0), (2, .ro rlT rs), (8, .rop [.int .i64 (.full (itO l n).1), .int .i64 (.full (itO l n).2)]), (70, .int .i64 (.full (itS (itF l g) n))), (71, .int .i64 (.sym i 0 1000000))], hp := imHpO (wdN l g (itO l n).1 (itO l n).2 x i), next := 6, sz := 194 }
def XptW (l : List Ob) (g : Glb) (da : List Int) (its : List itT.ty) (ow : List (Int × Int)) (im : List (Option Mp)) (pl : List Int) (lo : List Bool) (rs : List (Option Rmp)) (n : Nat) (x : Img) : SState := { fr := [], hp := imHpO (wdN l g (itO l n).1 (itO l n).2 x (itS (itF l g) n).toNat), next := 6, sz := 194 }
def LptW (l : List Ob) (g : Glb) (da : List Int) (its : List itT.ty) (ow : List (Int × Int)) (im : List (Option Mp)) (pl : List Int) (lo : List Bool) (rs : List (Option Rmp)) (n : Nat) (x : Img) : LSum := ⟨HptW l g da its ow im pl lo rs n x 0, fun k => k (.exit 0) (XptW l g da its ow im pl lo rs n x), LkV l g da its ow im pl lo ∧ rs = rsL l ∧ x.code.length ≤ 10000 ∧ x.places.length ≤ 10000 ∧ x.starts.length ≤ 10000 ∧ n < its.length⟩
theorem bptW (rest : List (Nat × SVal)) (l : List Ob) (g : Glb) (da : List Int) (its : List itT.ty) (ow : List (Int × Int)) (im : List (Option Mp)) (pl : List Int) (lo : List Bool) (rs : List (Option Rmp)) (n : Nat) (x : Img) (i : Nat) : (Tr.sat (rnd1 (envK (G7 ++ rest) [(43, kInstr), (49, kWord), (34, kkreal), (33, kaddress), (48, klkword)] 1) (fun _ => True) ((itS (itF l g) n).toNat) (HptW l g da its ow im pl lo rs n x) 0 (XptW l g da its ow im pl lo rs n x) i) (run (envK (G7 ++ rest) [(43, kInstr), (49, kWord), (34, kkreal), (33, kaddress), (48, klkword)] 1) [] (loopN (bodyOf Tryz.f36) 0) (HptW l g da its ow im pl lo rs n x i) .leaf)) = (
 IT (decide ((↑i : Int) < itS (itF l g) n)) (RQ (LkV l g da its ow im pl lo ∧ rs = rsL l ∧ imFew (wdN l g (itO l n).fst (itO l n).snd x i) ∧ 0 ≤ (itO l n).fst ∧ (itO l n).fst < (↑(List.length l) : Int) ∧ 0 ≤ IntKind.wrap IntKind.i64 ((itO l n).snd + (↑i : Int)) ∧ IntKind.wrap IntKind.i64 ((itO l n).snd + (↑i : Int)) < (↑(List.length (obN l (Int.toNat (itO l n).fst)).code) : Int)) (i < Int.toNat (itS (itF l g) n) ∧ True ∧ l = l ∧ some g = some g ∧ da = da ∧ its = its ∧ ow = ow ∧ im = im ∧ pl = pl ∧ lo = lo ∧ rs = rs ∧ (itO l n).fst = (itO l n).fst ∧ (itO l n).snd = (itO l n).snd ∧ itS (itF l g) n = itS (itF l g) n ∧ (↑i : Int) + 1 = (↑(i + 1) : Int) ∧ (0 ≤ (↑(i + 1) : Int) ∧ (↑(i + 1) : Int) ≤ 1000000) ∧ (wdM l g (itO l n).fst (IntKind.wrap IntKind.i64 ((itO l n).snd + (↑i : Int))) (wdN l g (itO l n).fst (itO l n).snd x i)).entry = (wdN l g (itO l n).fst (itO l n).snd x (i + 1)).entry ∧ (wdM l g (itO l n).fst (IntKind.wrap IntKind.i64 ((itO l n).snd + (↑i : Int))) (wdN l g (itO l n).fst (itO l n).snd x i)).data = (wdN l g (itO l n).fst (itO l n).snd x (i + 1)).data ∧ (wdM l g (itO l n).fst (IntKind.wrap IntKind.i64 ((itO l n).snd + (↑i : Int))) (wdN l g (itO l n).fst (itO l n).snd x i)).code = (wdN l g (itO l n).fst (itO l n).snd x (i + 1)).code ∧ (wdM l g (itO l n).fst (IntKind.wrap IntKind.i64 ((itO l n).snd + (↑i : Int))) (wdN l g (itO l n).fst (itO l n).snd x i)).drefs = (wdN l g (itO l n).fst (itO l n).snd x (i + 1)).drefs ∧ (wdM l g (itO l n).fst (IntKind.wrap IntKind.i64 ((itO l n).snd + (↑i : Int))) (wdN l g (itO l n).fst (itO l n).snd x i)).places = (wdN l g (itO l n).fst (itO l n).snd x (i + 1)).places ∧ (wdM l g (itO l n).fst (IntKind.wrap IntKind.i64 ((itO l n).snd + (↑i : Int))) (wdN l g (itO l n).fst (itO l n).snd x i)).starts = (wdN l g (itO l n).fst (itO l n).snd x (i + 1)).starts)) (Nat.beq (0 : Nat) (0 : Nat) = true ∧ (wdN l g (itO l n).fst (itO l n).snd x i).entry = (wdN l g (itO l n).fst (itO l n).snd x (Int.toNat (itS (itF l g) n))).entry ∧ (wdN l g (itO l n).fst (itO l n).snd x i).data = (wdN l g (itO l n).fst (itO l n).snd x (Int.toNat (itS (itF l g) n))).data ∧ (wdN l g (itO l n).fst (itO l n).snd x i).code = (wdN l g (itO l n).fst (itO l n).snd x (Int.toNat (itS (itF l g) n))).code ∧ (wdN l g (itO l n).fst (itO l n).snd x i).drefs = (wdN l g (itO l n).fst (itO l n).snd x (Int.toNat (itS (itF l g) n))).drefs ∧ (wdN l g (itO l n).fst (itO l n).snd x i).places = (wdN l g (itO l n).fst (itO l n).snd x (Int.toNat (itS (itF l g) n))).places ∧ (wdN l g (itO l n).fst (itO l n).snd x i).starts = (wdN l g (itO l n).fst (itO l n).snd x (Int.toNat (itS (itF l g) n))).starts)) := by kernel_rfl
set_option maxHeartbeats 4000000 in
theorem lptW (l : List Ob) (g : Glb) (da : List Int) (its : List itT.ty) (ow : List (Int × Int)) (im : List (Option Mp)) (pl : List Int) (lo : List Bool) (rs : List (Option Rmp)) (n : Nat) (x : Img) {W : World} {R own0 : Nat → Prop} {ρ0 : Nat → Option Value} (hown : HownOk (envK (G7 ++ rest) [(43, kInstr), (49, kWord), (34, kkreal), (33, kaddress), (48, klkword)] 1) own0 ρ0) : LOk Tryz.prog (envK (G7 ++ rest) [(43, kInstr), (49, kWord), (34, kkreal), (33, kaddress), (48, klkword)] 1) (ctx ea has) (G7 ++ rest) W R own0 ρ0 (loopN (bodyOf Tryz.f36) 0) (LptW l g da its ow im pl lo rs n x) := by
 refine loop1_ok (J := fun _ => True) (N := (itS (itF l g) n).toNat) (H := HptW l g da its ow im pl lo rs n x) (X := XptW l g da its ow im pl lo rs n x) (envK_ok (con := [(43, kInstr), (49, kWord), (34, kkreal), (33, kaddress), (48, klkword)]) ⟨cInstr, cWord, ckreal, caddress, clkword, trivial⟩) hown (ls := fun i => []) (fun i => noSums (by kernel_rfl)) (fun hm i hi hj => ?_) 0 (fun hm => by first | exact Nat.zero_le _ | omega) (fun hm => trivial)
 rw [bptW rest l g da its ow im pl lo rs n x i]
 delta RQ IT
 obtain ⟨V, hrs, f1, f2, f3, hn⟩ := hm
 have K := V.ok
 have hlen : its.length = oBs l l.length := by rw [V.its]; exact K.bs.2.1
 obtain ⟨o, w, I⟩ := itAt (l := l) (show n < oBs l l.length by omega)
 obtain ⟨z1, z2⟩ := I.words K.nm
 have z3 := itF_size0 l g n
 obtain ⟨w1, w2, w3, w4, w5, w6⟩ := wdN_len l g (itO l n).1 (itO l n).2 x i
 have hN : wdN l g (itO l n).1 (itO l n).2 x (i + 1) = wdM l g (itO l n).1 ((itO l n).2 + i) (wdN l g (itO l n).1 (itO l n).2 x i) := rfl
 have hc := (K.nm.val o I.ho).code
 have ho := I.ho
 have hI1 : (itO l n).1 = o := by rw [I.own]
 have hI2 : (itO l n).2 = w := by rw [I.own]
 rw [hN]
 rw [hI1, hI2] at w1 w2 w3 ⊢
 refine ⟨fun h => ?_, fun h => ?_⟩
 ·have h := of_decide_eq_true h
  have ww : IntKind.i64.wrap ((w : Int) + i) = (w : Int) + i := by rw [IntKind.wrap_i64]; omega
  have e0 : (obN l ((o : Nat) : Int).toNat) = obN l o := by rw [Int.toNat_natCast]
  simp only [ww, eq_self, true_and, and_true]
  refine ⟨⟨V, hrs, ⟨by omega, by omega, by rw [w3]; omega⟩, by omega, by omega, by omega, by rw [e0]; omega⟩, fun _ => ⟨by omega, by omega, by omega⟩⟩
 ·have h := of_decide_eq_false h
  have : i = (itS (itF l g) n).toNat := by omega
  subst this
  exact ⟨rfl, rfl, rfl, rfl, rfl, rfl, rfl⟩
def ptO (l : List Ob) (n : Nat) : Ob := obN l (itO l n).1.toNat
def ptCut (l : List Ob) (g : Glb) (da : List Int) (its : List itT.ty) (ow : List (Int × Int)) (im : List (Option Mp)) (pl : List Int) (lo : List Bool) (rs : List (Option Rmp)) (j : Int) (x : Img) : LSum := cutL { fr := [(0, lkV l g da its ow im pl lo), (1, .ptr 0 0), (2, .ro rlT rs), (3, .int .i64 (.full j)), (8, .rop [.int .i64 (.full (itO l j.toNat).1), .int .i64 (.full (itO l j.toNat).2)]), (9, .rop [.ro .u32 (ptO l j.toNat).data, .ro .u32 (ptO l j.toNat).code, .ro .u8 (ptO l j.toNat).map, .ro .rel (ptO l j.toNat).drels, .ro .rel (ptO l j.toNat).crels, .ro .sym (ptO l j.toNat).syms])], hp := imHpO (ptS l j.toNat x), next := 6, sz := 194 }
def kput : List SVal → Nat → Acc ORes := fun a n => match a with
 | [.rop [.ro .obj l, .rom .str (.flat (.int .i64) [.int .i64]) (some g), .ro .i64 da, .ro (.flat (.int .i64) [.int .i64, .bool]) its, .ro (.flat (.int .i64) [.int .i64]) ow, .ro (.fmap (.int .i64) .i64) im, .ro .i64 pl, .ro .bool lo], .ptr q 0, .ro (.fmap (.int .i64) .rel) rs, .int .i64 j] => .look q fun cc => match cc with | some (.cells [.int .u32 en, .own d, .own c, .own z, .own p, .own s]) => (.look d fun cc => match cc with | some (.recs .u32 D) => (.look c fun cc => match cc with | some (.recs .u32 C) => (.look z fun cc => match cc with | some (.recs .i64 Z) => (.look p fun cc => match cc with | some (.recs .i64 P) => (.look s fun cc => match cc with | some (.recs .i64 S) => (match nodupB [q, d, c, z, p, s] with | true => .ret (genR [q] (gone [d, c, z, p, s]) n (.tuple []) ((imHp (ptM l g j.val.toNat (⟨en.val, D, C, Z, P, S⟩ : Img)))) 5 (some (LkV l g da its ow im pl lo ∧ rs = rsL l ∧ (⟨en.val, D, C, Z, P, S⟩ : Img).code.length ≤ 9000 ∧ (⟨en.val, D, C, Z, P, S⟩ : Img).places.length ≤ 9000 ∧ (⟨en.val, D, C, Z, P, S⟩ : Img).starts.length ≤ 9000 ∧ 0 ≤ j.val ∧ j.val < its.length))) | false => .fail "put") | _ => .fail "put") | _ => .fail "put") | _ => .fail "put") | _ => .fail "put") | _ => .fail "put") | _ => .fail "put"
 | _ => .fail "put"
theorem fitput (rest : List (Nat × SVal)) (l : List Ob) (g : Glb) (da : List Int) (its : List itT.ty) (ow : List (Int × Int)) (im : List (Option Mp)) (pl : List Int) (lo : List Bool) (rs : List (Option Rmp)) (j : SI) (en : SI) (D C Z P S : List Int) : (fits (envK (G7 ++ rest) [(43, kInstr), (49, kWord), (34, kkreal), (33, kaddress), (48, klkword)] 1) (S1 [.rop [.ro .obj l, .rom .str (.flat (.int .i64) [.int .i64]) (some g), .ro .i64 da, .ro (.flat (.int .i64) [.int .i64, .bool]) its, .ro (.flat (.int .i64) [.int .i64]) ow, .ro (.fmap (.int .i64) .i64) im, .ro .i64 pl, .ro .bool lo], .ptr 0 0, .ro (.fmap (.int .i64) .rel) rs, .int .i64 j] (numC 0 [.cells [.int .u32 en, .own 1, .own 2, .own 3, .own 4, .own 5], .recs .u32 D, .recs .u32 C, .recs .i64 Z, .recs .i64 P, .recs .i64 S]) 6 194) (S1 [lkV l g da its ow im pl lo, .ptr 0 0, .ro rlT rs, .int .i64 (.full j.val)] (imHpO (⟨en.val, D, C, Z, P, S⟩ : Img)) 6 194)) = (
 l = l ∧ some g = some g ∧ da = da ∧ its = its ∧ ow = ow ∧ im = im ∧ pl = pl ∧ lo = lo ∧ rs = rs ∧ SI.val j = SI.val j ∧ SI.val en = SI.val en ∧ D = D ∧ C = C ∧ Z = Z ∧ P = P ∧ S = S) := by kernel_rfl
abbrev Tput (rest : List (Nat × SVal)) (l : List Ob) (g : Glb) (da : List Int) (its : List itT.ty) (ow : List (Int × Int)) (im : List (Option Mp)) (pl : List Int) (lo : List Bool) (rs : List (Option Rmp)) (j : Int) (x : Img) : Prop := Tr.sat (newQ (envK (G7 ++ rest) [(43, kInstr), (49, kWord), (34, kkreal), (33, kaddress), (48, klkword)] 1) (.tuple []) ((imHp (ptM l g j.toNat x))) (1 + 5)) (run (envK (G7 ++ rest) [(43, kInstr), (49, kWord), (34, kkreal), (33, kaddress), (48, klkword)] 1) [(2000004, ptCut l g da its ow im pl lo rs j x), (6, LptW l g da its ow im pl lo rs j.toNat (ptS l j.toNat x))] (bodyOf Tryz.f36) (S1 [lkV l g da its ow im pl lo, .ptr 0 0, .ro rlT rs, .int .i64 (.full j)] (imHpO x) 6 194) (ends (envK (G7 ++ rest) [(43, kInstr), (49, kWord), (34, kkreal), (33, kaddress), (48, klkword)] 1) Tryz.f36.results.toList))
theorem runput (rest : List (Nat × SVal)) (l : List Ob) (g : Glb) (da : List Int) (its : List itT.ty) (ow : List (Int × Int)) (im : List (Option Mp)) (pl : List Int) (lo : List Bool) (rs : List (Option Rmp)) (j : Int) (x : Img) : (Tput rest l g da its ow im pl lo rs j x) = (
 RQ (0 ≤ j ∧ j < (↑(List.length ow) : Int)) (RQ (0 ≤ (List.getD ow (Int.toNat j) (RT.dflt (RT.flat (FK.int IntKind.i64) [FK.int IntKind.i64]))).fst ∧ (List.getD ow (Int.toNat j) (RT.dflt (RT.flat (FK.int IntKind.i64) [FK.int IntKind.i64]))).fst < (↑(List.length l) : Int)) ((RQ (0 ≤ (List.getD ow (Int.toNat j) (RT.dflt (RT.flat (FK.int IntKind.i64) [FK.int IntKind.i64]))).snd ∧ (List.getD ow (Int.toNat j) (RT.dflt (RT.flat (FK.int IntKind.i64) [FK.int IntKind.i64]))).snd < (↑(List.length (List.getD l (Int.toNat (List.getD ow (Int.toNat j) (RT.dflt (RT.flat (FK.int IntKind.i64) [FK.int IntKind.i64]))).fst) (RT.dflt RT.obj)).map) : Int)) (IT (decide (List.getD (List.getD l (Int.toNat (List.getD ow (Int.toNat j) (RT.dflt (RT.flat (FK.int IntKind.i64) [FK.int IntKind.i64]))).fst) (RT.dflt RT.obj)).map (Int.toNat (List.getD ow (Int.toNat j) (RT.dflt (RT.flat (FK.int IntKind.i64) [FK.int IntKind.i64]))).snd) (RT.dflt RT.u8) = 1)) (RQ (List.length x.starts + List.length [(↑(List.length x.code) : Int)] ≤ 137438953472) (l = l ∧ some g = some g ∧ da = da ∧ its = its ∧ ow = ow ∧ im = im ∧ pl = pl ∧ lo = lo ∧ rs = rs ∧ j = j ∧ (List.getD ow (Int.toNat j) (RT.dflt (RT.flat (FK.int IntKind.i64) [FK.int IntKind.i64]))).fst = (itO l (Int.toNat j)).fst ∧ (List.getD ow (Int.toNat j) (RT.dflt (RT.flat (FK.int IntKind.i64) [FK.int IntKind.i64]))).snd = (itO l (Int.toNat j)).snd ∧ (List.getD l (Int.toNat (List.getD ow (Int.toNat j) (RT.dflt (RT.flat (FK.int IntKind.i64) [FK.int IntKind.i64]))).fst) (RT.dflt RT.obj)).data = (ptO l (Int.toNat j)).data ∧ (List.getD l (Int.toNat (List.getD ow (Int.toNat j) (RT.dflt (RT.flat (FK.int IntKind.i64) [FK.int IntKind.i64]))).fst) (RT.dflt RT.obj)).code = (ptO l (Int.toNat j)).code ∧ (List.getD l (Int.toNat (List.getD ow (Int.toNat j) (RT.dflt (RT.flat (FK.int IntKind.i64) [FK.int IntKind.i64]))).fst) (RT.dflt RT.obj)).map = (ptO l (Int.toNat j)).map ∧ (List.getD l (Int.toNat (List.getD ow (Int.toNat j) (RT.dflt (RT.flat (FK.int IntKind.i64) [FK.int IntKind.i64]))).fst) (RT.dflt RT.obj)).drels = (ptO l (Int.toNat j)).drels ∧ (List.getD l (Int.toNat (List.getD ow (Int.toNat j) (RT.dflt (RT.flat (FK.int IntKind.i64) [FK.int IntKind.i64]))).fst) (RT.dflt RT.obj)).crels = (ptO l (Int.toNat j)).crels ∧ (List.getD l (Int.toNat (List.getD ow (Int.toNat j) (RT.dflt (RT.flat (FK.int IntKind.i64) [FK.int IntKind.i64]))).fst) (RT.dflt RT.obj)).syms = (ptO l (Int.toNat j)).syms ∧ x.entry = (ptS l (Int.toNat j) x).entry ∧ x.data = (ptS l (Int.toNat j) x).data ∧ x.code = (ptS l (Int.toNat j) x).code ∧ x.drefs = (ptS l (Int.toNat j) x).drefs ∧ x.places = (ptS l (Int.toNat j) x).places ∧ x.starts ++ [(↑(List.length x.code) : Int)] = (ptS l (Int.toNat j) x).starts)) (l = l ∧ some g = some g ∧ da = da ∧ its = its ∧ ow = ow ∧ im = im ∧ pl = pl ∧ lo = lo ∧ rs = rs ∧ j = j ∧ (List.getD ow (Int.toNat j) (RT.dflt (RT.flat (FK.int IntKind.i64) [FK.int IntKind.i64]))).fst = (itO l (Int.toNat j)).fst ∧ (List.getD ow (Int.toNat j) (RT.dflt (RT.flat (FK.int IntKind.i64) [FK.int IntKind.i64]))).snd = (itO l (Int.toNat j)).snd ∧ (List.getD l (Int.toNat (List.getD ow (Int.toNat j) (RT.dflt (RT.flat (FK.int IntKind.i64) [FK.int IntKind.i64]))).fst) (RT.dflt RT.obj)).data = (ptO l (Int.toNat j)).data ∧ (List.getD l (Int.toNat (List.getD ow (Int.toNat j) (RT.dflt (RT.flat (FK.int IntKind.i64) [FK.int IntKind.i64]))).fst) (RT.dflt RT.obj)).code = (ptO l (Int.toNat j)).code ∧ (List.getD l (Int.toNat (List.getD ow (Int.toNat j) (RT.dflt (RT.flat (FK.int IntKind.i64) [FK.int IntKind.i64]))).fst) (RT.dflt RT.obj)).map = (ptO l (Int.toNat j)).map ∧ (List.getD l (Int.toNat (List.getD ow (Int.toNat j) (RT.dflt (RT.flat (FK.int IntKind.i64) [FK.int IntKind.i64]))).fst) (RT.dflt RT.obj)).drels = (ptO l (Int.toNat j)).drels ∧ (List.getD l (Int.toNat (List.getD ow (Int.toNat j) (RT.dflt (RT.flat (FK.int IntKind.i64) [FK.int IntKind.i64]))).fst) (RT.dflt RT.obj)).crels = (ptO l (Int.toNat j)).crels ∧ (List.getD l (Int.toNat (List.getD ow (Int.toNat j) (RT.dflt (RT.flat (FK.int IntKind.i64) [FK.int IntKind.i64]))).fst) (RT.dflt RT.obj)).syms = (ptO l (Int.toNat j)).syms ∧ x.entry = (ptS l (Int.toNat j) x).entry ∧ x.data = (ptS l (Int.toNat j) x).data ∧ x.code = (ptS l (Int.toNat j) x).code ∧ x.drefs = (ptS l (Int.toNat j) x).drefs ∧ x.places = (ptS l (Int.toNat j) x).places ∧ x.starts = (ptS l (Int.toNat j) x).starts))) ∧ RQ (0 ≤ j ∧ j < (↑(List.length its) : Int)) (IT (!(List.getD its (Int.toNat j) (RT.dflt (RT.flat (FK.int IntKind.i64) [FK.int IntKind.i64, FK.bool]))).snd.snd) (RQ (0 ≤ j ∧ j < (↑(List.length its) : Int)) (RQ ((LkV l g da its ow im pl lo ∧ rs = rsL l ∧ List.length (ptS l (Int.toNat j) x).code ≤ 10000 ∧ List.length (ptS l (Int.toNat j) x).places ≤ 10000 ∧ List.length (ptS l (Int.toNat j) x).starts ≤ 10000 ∧ Int.toNat j < List.length its) ∧ l = l ∧ some g = some g ∧ da = da ∧ its = its ∧ ow = ow ∧ im = im ∧ pl = pl ∧ lo = lo ∧ rs = rs ∧ (itO l (Int.toNat j)).fst = (itO l (Int.toNat j)).fst ∧ (itO l (Int.toNat j)).snd = (itO l (Int.toNat j)).snd ∧ (List.getD its (Int.toNat j) (RT.dflt (RT.flat (FK.int IntKind.i64) [FK.int IntKind.i64, FK.bool]))).fst = itS (itF l g) (Int.toNat j) ∧ (0 : Int) = (↑(0 : Nat) : Int) ∧ (ptS l (Int.toNat j) x).entry = (wdN l g (itO l (Int.toNat j)).fst (itO l (Int.toNat j)).snd (ptS l (Int.toNat j) x) (0 : Nat)).entry ∧ (ptS l (Int.toNat j) x).data = (wdN l g (itO l (Int.toNat j)).fst (itO l (Int.toNat j)).snd (ptS l (Int.toNat j) x) (0 : Nat)).data ∧ (ptS l (Int.toNat j) x).code = (wdN l g (itO l (Int.toNat j)).fst (itO l (Int.toNat j)).snd (ptS l (Int.toNat j) x) (0 : Nat)).code ∧ (ptS l (Int.toNat j) x).drefs = (wdN l g (itO l (Int.toNat j)).fst (itO l (Int.toNat j)).snd (ptS l (Int.toNat j) x) (0 : Nat)).drefs ∧ (ptS l (Int.toNat j) x).places = (wdN l g (itO l (Int.toNat j)).fst (itO l (Int.toNat j)).snd (ptS l (Int.toNat j) x) (0 : Nat)).places ∧ (ptS l (Int.toNat j) x).starts = (wdN l g (itO l (Int.toNat j)).fst (itO l (Int.toNat j)).snd (ptS l (Int.toNat j) x) (0 : Nat)).starts) ((wdN l g (itO l (Int.toNat j)).fst (itO l (Int.toNat j)).snd (ptS l (Int.toNat j) x) (Int.toNat (itS (itF l g) (Int.toNat j)))).entry = (ptM l g (Int.toNat j) x).entry ∧ (wdN l g (itO l (Int.toNat j)).fst (itO l (Int.toNat j)).snd (ptS l (Int.toNat j) x) (Int.toNat (itS (itF l g) (Int.toNat j)))).data = (ptM l g (Int.toNat j) x).data ∧ (wdN l g (itO l (Int.toNat j)).fst (itO l (Int.toNat j)).snd (ptS l (Int.toNat j) x) (Int.toNat (itS (itF l g) (Int.toNat j)))).code = (ptM l g (Int.toNat j) x).code ∧ (wdN l g (itO l (Int.toNat j)).fst (itO l (Int.toNat j)).snd (ptS l (Int.toNat j) x) (Int.toNat (itS (itF l g) (Int.toNat j)))).drefs = (ptM l g (Int.toNat j) x).drefs ∧ (wdN l g (itO l (Int.toNat j)).fst (itO l (Int.toNat j)).snd (ptS l (Int.toNat j) x) (Int.toNat (itS (itF l g) (Int.toNat j)))).places = (ptM l g (Int.toNat j) x).places ∧ (wdN l g (itO l (Int.toNat j)).fst (itO l (Int.toNat j)).snd (ptS l (Int.toNat j) x) (Int.toNat (itS (itF l g) (Int.toNat j)))).starts = (ptM l g (Int.toNat j) x).starts))) (RQ (0 ≤ (itO l (Int.toNat j)).fst ∧ (itO l (Int.toNat j)).fst < (↑(List.length rs) : Int)) (RQ (0 ≤ (itO l (Int.toNat j)).fst ∧ (itO l (Int.toNat j)).fst < (↑(List.length l) : Int) ∧ 0 ≤ (gGet (RT.dflt RT.rel) (Option.getD (List.getD rs (Int.toNat (itO l (Int.toNat j)).fst) (RT.dflt (RT.fmap (FK.int IntKind.i64) RT.rel))) (@List.nil (FK.ty (FK.int IntKind.i64) × RT.ty RT.rel))) (itO l (Int.toNat j)).snd).sym ∧ (gGet (RT.dflt RT.rel) (Option.getD (List.getD rs (Int.toNat (itO l (Int.toNat j)).fst) (RT.dflt (RT.fmap (FK.int IntKind.i64) RT.rel))) (@List.nil (FK.ty (FK.int IntKind.i64) × RT.ty RT.rel))) (itO l (Int.toNat j)).snd).sym < (↑(List.length (List.getD l (Int.toNat (itO l (Int.toNat j)).fst) (RT.dflt RT.obj)).syms) : Int)) (RQ (0 ≤ j ∧ j < (↑(List.length lo) : Int)) (IT (List.getD lo (Int.toNat j) (RT.dflt RT.bool)) (RQ (LkV l g da its ow im pl lo ∧ Own l ((realM l g (itO l (Int.toNat j)).fst (gGet (RT.dflt RT.rel) (Option.getD (List.getD rs (Int.toNat (itO l (Int.toNat j)).fst) (RT.dflt (RT.fmap (FK.int IntKind.i64) RT.rel))) (@List.nil (FK.ty (FK.int IntKind.i64) × RT.ty RT.rel))) (itO l (Int.toNat j)).snd).sym).fst, (realM l g (itO l (Int.toNat j)).fst (gGet (RT.dflt RT.rel) (Option.getD (List.getD rs (Int.toNat (itO l (Int.toNat j)).fst) (RT.dflt (RT.fmap (FK.int IntKind.i64) RT.rel))) (@List.nil (FK.ty (FK.int IntKind.i64) × RT.ty RT.rel))) (itO l (Int.toNat j)).snd).sym).snd)) (RQ (List.length (ptS l (Int.toNat j) x).places + List.length [IntKind.wrap IntKind.i64 ((↑(List.length (ptS l (Int.toNat j) x).code) : Int) + 1)] ≤ 137438953472) (RQ (List.length (ptS l (Int.toNat j) x).code + List.length [wordW (IntKind.wrap IntKind.i64 (IntKind.wrap IntKind.i64 ((insI (ptO l (Int.toNat j)).code (ptO l (Int.toNat j)).map (itO l (Int.toNat j)).snd).op - 16) + 19)) (insI (ptO l (Int.toNat j)).code (ptO l (Int.toNat j)).map (itO l (Int.toNat j)).snd).a (insI (ptO l (Int.toNat j)).code (ptO l (Int.toNat j)).map (itO l (Int.toNat j)).snd).b (0 : Int) (adrL l g ((realM l g (itO l (Int.toNat j)).fst (gGet (RT.dflt RT.rel) (Option.getD (List.getD rs (Int.toNat (itO l (Int.toNat j)).fst) (RT.dflt (RT.fmap (FK.int IntKind.i64) RT.rel))) (@List.nil (FK.ty (FK.int IntKind.i64) × RT.ty RT.rel))) (itO l (Int.toNat j)).snd).sym).fst, (realM l g (itO l (Int.toNat j)).fst (gGet (RT.dflt RT.rel) (Option.getD (List.getD rs (Int.toNat (itO l (Int.toNat j)).fst) (RT.dflt (RT.fmap (FK.int IntKind.i64) RT.rel))) (@List.nil (FK.ty (FK.int IntKind.i64) × RT.ty RT.rel))) (itO l (Int.toNat j)).snd).sym).snd)), adrL l g ((realM l g (itO l (Int.toNat j)).fst (gGet (RT.dflt RT.rel) (Option.getD (List.getD rs (Int.toNat (itO l (Int.toNat j)).fst) (RT.dflt (RT.fmap (FK.int IntKind.i64) RT.rel))) (@List.nil (FK.ty (FK.int IntKind.i64) × RT.ty RT.rel))) (itO l (Int.toNat j)).snd).sym).fst, (realM l g (itO l (Int.toNat j)).fst (gGet (RT.dflt RT.rel) (Option.getD (List.getD rs (Int.toNat (itO l (Int.toNat j)).fst) (RT.dflt (RT.fmap (FK.int IntKind.i64) RT.rel))) (@List.nil (FK.ty (FK.int IntKind.i64) × RT.ty RT.rel))) (itO l (Int.toNat j)).snd).sym).snd)] ≤ 137438953472) ((ptS l (Int.toNat j) x).entry = (ptM l g (Int.toNat j) x).entry ∧ (ptS l (Int.toNat j) x).data = (ptM l g (Int.toNat j) x).data ∧ (ptS l (Int.toNat j) x).code ++ [wordW (IntKind.wrap IntKind.i64 (IntKind.wrap IntKind.i64 ((insI (ptO l (Int.toNat j)).code (ptO l (Int.toNat j)).map (itO l (Int.toNat j)).snd).op - 16) + 19)) (insI (ptO l (Int.toNat j)).code (ptO l (Int.toNat j)).map (itO l (Int.toNat j)).snd).a (insI (ptO l (Int.toNat j)).code (ptO l (Int.toNat j)).map (itO l (Int.toNat j)).snd).b (0 : Int) (adrL l g ((realM l g (itO l (Int.toNat j)).fst (gGet (RT.dflt RT.rel) (Option.getD (List.getD rs (Int.toNat (itO l (Int.toNat j)).fst) (RT.dflt (RT.fmap (FK.int IntKind.i64) RT.rel))) (@List.nil (FK.ty (FK.int IntKind.i64) × RT.ty RT.rel))) (itO l (Int.toNat j)).snd).sym).fst, (realM l g (itO l (Int.toNat j)).fst (gGet (RT.dflt RT.rel) (Option.getD (List.getD rs (Int.toNat (itO l (Int.toNat j)).fst) (RT.dflt (RT.fmap (FK.int IntKind.i64) RT.rel))) (@List.nil (FK.ty (FK.int IntKind.i64) × RT.ty RT.rel))) (itO l (Int.toNat j)).snd).sym).snd)), adrL l g ((realM l g (itO l (Int.toNat j)).fst (gGet (RT.dflt RT.rel) (Option.getD (List.getD rs (Int.toNat (itO l (Int.toNat j)).fst) (RT.dflt (RT.fmap (FK.int IntKind.i64) RT.rel))) (@List.nil (FK.ty (FK.int IntKind.i64) × RT.ty RT.rel))) (itO l (Int.toNat j)).snd).sym).fst, (realM l g (itO l (Int.toNat j)).fst (gGet (RT.dflt RT.rel) (Option.getD (List.getD rs (Int.toNat (itO l (Int.toNat j)).fst) (RT.dflt (RT.fmap (FK.int IntKind.i64) RT.rel))) (@List.nil (FK.ty (FK.int IntKind.i64) × RT.ty RT.rel))) (itO l (Int.toNat j)).snd).sym).snd)] = (ptM l g (Int.toNat j) x).code ∧ (ptS l (Int.toNat j) x).drefs = (ptM l g (Int.toNat j) x).drefs ∧ (ptS l (Int.toNat j) x).places ++ [IntKind.wrap IntKind.i64 ((↑(List.length (ptS l (Int.toNat j) x).code) : Int) + 1)] = (ptM l g (Int.toNat j) x).places ∧ (ptS l (Int.toNat j) x).starts = (ptM l g (Int.toNat j) x).starts)))) (RQ (0 ≤ j ∧ j < (↑(List.length its) : Int)) (RQ (0 ≤ (List.getD its (Int.toNat j) (RT.dflt (RT.flat (FK.int IntKind.i64) [FK.int IntKind.i64, FK.bool]))).snd.fst ∧ (List.getD its (Int.toNat j) (RT.dflt (RT.flat (FK.int IntKind.i64) [FK.int IntKind.i64, FK.bool]))).snd.fst < (↑(List.length pl) : Int)) (RQ (0 ≤ j ∧ j < (↑(List.length pl) : Int)) (RQ (List.length (ptS l (Int.toNat j) x).code + List.length [wordW (insI (ptO l (Int.toNat j)).code (ptO l (Int.toNat j)).map (itO l (Int.toNat j)).snd).op (insI (ptO l (Int.toNat j)).code (ptO l (Int.toNat j)).map (itO l (Int.toNat j)).snd).a (insI (ptO l (Int.toNat j)).code (ptO l (Int.toNat j)).map (itO l (Int.toNat j)).snd).b (IntKind.wrap IntKind.u8 (IntKind.wrap IntKind.i64 (List.getD pl (Int.toNat (List.getD its (Int.toNat j) (RT.dflt (RT.flat (FK.int IntKind.i64) [FK.int IntKind.i64, FK.bool]))).snd.fst) (RT.dflt RT.i64) - List.getD pl (Int.toNat j) (RT.dflt RT.i64)))) (insI (ptO l (Int.toNat j)).code (ptO l (Int.toNat j)).map (itO l (Int.toNat j)).snd).imm] ≤ 137438953472) ((ptS l (Int.toNat j) x).entry = (ptM l g (Int.toNat j) x).entry ∧ (ptS l (Int.toNat j) x).data = (ptM l g (Int.toNat j) x).data ∧ (ptS l (Int.toNat j) x).code ++ [wordW (insI (ptO l (Int.toNat j)).code (ptO l (Int.toNat j)).map (itO l (Int.toNat j)).snd).op (insI (ptO l (Int.toNat j)).code (ptO l (Int.toNat j)).map (itO l (Int.toNat j)).snd).a (insI (ptO l (Int.toNat j)).code (ptO l (Int.toNat j)).map (itO l (Int.toNat j)).snd).b (IntKind.wrap IntKind.u8 (IntKind.wrap IntKind.i64 (List.getD pl (Int.toNat (List.getD its (Int.toNat j) (RT.dflt (RT.flat (FK.int IntKind.i64) [FK.int IntKind.i64, FK.bool]))).snd.fst) (RT.dflt RT.i64) - List.getD pl (Int.toNat j) (RT.dflt RT.i64)))) (insI (ptO l (Int.toNat j)).code (ptO l (Int.toNat j)).map (itO l (Int.toNat j)).snd).imm] = (ptM l g (Int.toNat j) x).code ∧ (ptS l (Int.toNat j) x).drefs = (ptM l g (Int.toNat j) x).drefs ∧ (ptS l (Int.toNat j) x).places = (ptM l g (Int.toNat j) x).places ∧ (ptS l (Int.toNat j) x).starts = (ptM l g (Int.toNat j) x).starts))))))))))))) := by kernel_rfl
set_option maxHeartbeats 4000000 in
theorem gput (l : List Ob) (g : Glb) (da : List Int) (its : List itT.ty) (ow : List (Int × Int)) (im : List (Option Mp)) (pl : List Int) (lo : List Bool) (rs : List (Option Rmp)) (j : Int) (x : Img) (hv : LkV l g da its ow im pl lo ∧ rs = rsL l ∧ x.code.length ≤ 9000 ∧ x.places.length ≤ 9000 ∧ x.starts.length ≤ 9000 ∧ 0 ≤ j ∧ j < its.length) : Box (Tput rest l g da its ow im pl lo rs j x) := by
 refine .of (runput rest l g da its ow im pl lo rs j x) ?_
 delta RQ IT
 obtain ⟨V, rfl, f1, f2, f3, j1, j2⟩ := hv
 obtain ⟨n, rfl⟩ : ∃ n : Nat, j = n := ⟨j.toNat, (Int.toNat_of_nonneg j1).symm⟩
 have V' := V
 obtain ⟨K, rfl, rfl, rfl, rfl, rfl, rfl⟩ := V
 have hlen : (itF l g).length = oBs l l.length := K.bs.2.1
 have hn : n < oBs l l.length := by omega
 obtain ⟨o, w, I⟩ := itAt hn
 have ho := I.ho
 have hw := I.hw
 have hM : ptM l g n x = _ := ptM.eq_1 l g n x
 have hS : ptS l n x = _ := ptS.eq_1 l n x
 have hPe : (ptS l n x).code = x.code ∧ (ptS l n x).places = x.places ∧ (ptS l n x).starts.length ≤ x.starts.length + 1 := by
  rw [hS]; split
  ·exact ⟨rfl, rfl, by simp⟩
  ·exact ⟨rfl, rfl, by omega⟩
 have how : (oOw l l.length).length = oBs l l.length := oOw_len l _
 have hlo : (loF l g).length = (itF l g).length := rlx_len _
 have hpl : (plF l g).length = (itF l g).length + 1 := plL_len _ _ _
 have hrs : (rsL l).length = l.length := rsU_len l _
 have hI1 : (itO l n).1 = o := by rw [I.own]
 have hI2 : (itO l n).2 = w := by rw [I.own]
 have e0 : obN l (itO l n).1.toNat = obN l o := by rw [hI1, Int.toNat_natCast]
 have q1 : 0 ≤ (itO l n).1 ∧ (itO l n).1 < l.length := by rw [hI1]; omega
 have q2 : 0 ≤ (itO l n).2 ∧ (itO l n).2 < ((obN l (itO l n).1.toNat).map.length : Nat) := by rw [e0, hI2]; omega
 simp only [Int.toNat_natCast, eq_self, true_and, and_true]
 refine ⟨by omega, fun _ => ⟨q1, fun _ => ⟨⟨q2, fun _ => ⟨fun g1 => ?_, fun g1 => ?_⟩⟩, ⟨by omega, by omega⟩, fun _ => ⟨fun g1 => ?_, fun g1 => ?_⟩⟩⟩⟩
 ·have g1 := of_decide_eq_true g1
  have g1 : (obN l (itO l n).1.toNat).map.getD (itO l n).2.toNat 0 = 1 := g1
  rw [if_pos g1] at hS
  rw [hS]
  refine ⟨by simp only [List.length_singleton]; omega, fun _ => ?_⟩
  exact ⟨rfl, rfl, rfl, rfl, rfl, rfl, rfl, rfl, rfl, rfl, rfl, rfl, rfl, rfl⟩
 ·have g1 := of_decide_eq_false g1
  have g1 : ¬ (obN l (itO l n).1.toNat).map.getD (itO l n).2.toNat 0 = 1 := g1
  rw [if_neg g1] at hS
  rw [hS]
  exact ⟨rfl, rfl, rfl, rfl, rfl, rfl, rfl, rfl, rfl, rfl, rfl, rfl, rfl, rfl⟩
 ·have g1 : itB (itF l g) n = false := by rw [Bool.not_eq_true'] at g1; exact g1
  rw [if_pos g1] at hM
  obtain ⟨p1, p2, p3⟩ := hPe
  rw [hM]
  exact ⟨by omega, fun _ => ⟨⟨⟨V', by rw [p1]; omega, by rw [p2]; omega, by omega, by omega⟩, rfl, rfl, rfl, rfl, rfl, rfl, rfl, rfl⟩, fun _ => ⟨rfl, rfl, rfl, rfl, rfl, rfl⟩⟩⟩
 ·have g1 : itB (itF l g) n = true := by rw [Bool.not_eq_false'] at g1; exact g1
  rw [if_neg (by rw [g1]; simp)] at hM
  obtain ⟨p1, p2, p3⟩ := hPe
  obtain ⟨k, k1, k2, k3, k4, k5, k6, k7, k8⟩ := I.br K.nm g1
  obtain ⟨c1, c2, c3, c4, _⟩ := (K.nm.val o ho).crel k1 _ rfl
  have eR : rG l (itO l n).1 (itO l n).2 = relN l o k := by rw [hI1, hI2]; exact k5
  have c3' : 0 ≤ (rG l (itO l n).1 (itO l n).2).sym := by rw [eR]; exact c3
  have c4' : (rG l (itO l n).1 (itO l n).2).sym < ((obN l (itO l n).1.toNat).syms.length : Nat) := by rw [eR, e0]; exact c4
  have O : Own l (itTo l g n) := by unfold itTo; rw [eR, hI1]; exact K.nm.own ho c3 c4
  have hop : (itI l n).op = 16 ∨ (itI l n).op = 17 ∨ (itI l n).op = 18 := by unfold itI; rw [e0, hI2]; exact short_op k8
  refine ⟨by rw [hrs]; exact q1, fun _ => ⟨⟨q1.1, q1.2, c3', c4'⟩, fun _ => ⟨by omega, fun _ => ⟨fun g2 => ?_, fun g2 => ?_⟩⟩⟩⟩
  ·rw [if_pos (show (loF l g).getD n false = true from g2)] at hM
   have w1 : IntKind.i64.wrap (IntKind.i64.wrap ((itI l n).op - 16) + 19) = (itI l n).op - 16 + 19 := by rcases hop with h | h | h <;> rw [h] <;> rfl
   have w2 : IntKind.i64.wrap (((ptS l n x).code.length : Nat) + 1) = ((ptS l n x).code.length : Nat) + 1 := by rw [IntKind.wrap_i64, p1]; omega
   rw [hM, w2]
   refine ⟨⟨V', O⟩, fun _ => ⟨by rw [p2]; simp only [List.length_singleton]; omega, fun _ => ⟨by rw [p1]; simp only [List.length_cons, List.length_nil]; omega, fun _ => ⟨rfl, rfl, ?_, rfl, rfl, rfl⟩⟩⟩⟩
   show (ptS l n x).code ++ [wordW (IntKind.i64.wrap (IntKind.i64.wrap ((itI l n).op - 16) + 19)) _ _ 0 (adrL l g (itTo l g n)), adrL l g (itTo l g n)] = _
   rw [w1]; rfl
  ·rw [if_neg (show ¬ (loF l g).getD n false = true by rw [show (loF l g).getD n false = false from g2]; simp)] at hM
   have ha : 0 ≤ itG (itF l g) n ∧ itG (itF l g) n ≤ ((oBs l l.length : Nat) : Int) := brO_aim K.nm l.length (Nat.le_refl _) n
   have hp1 := K.plN (n := n) (by omega)
   have hp2 := K.plN (n := (itG (itF l g) n).toNat) (by omega)
   have e1 : (plF l g).getD n RT.i64.dflt = plN l g n := plL_get _ _ _ _ (by omega)
   have e2 : (plF l g).getD (itG (itF l g) n).toNat RT.i64.dflt = plN l g (itG (itF l g) n).toNat := plL_get _ _ _ _ (by omega)
   have w1 : IntKind.i64.wrap (plN l g (itG (itF l g) n).toNat - plN l g n) = plN l g (itG (itF l g) n).toNat - plN l g n := by rw [IntKind.wrap_i64]; omega
   rw [hM]
   refine ⟨by omega, fun _ => ⟨by show 0 ≤ itG (itF l g) n ∧ itG (itF l g) n < _; omega, fun _ => ⟨by omega, fun _ => ⟨by rw [p1]; simp only [List.length_singleton]; omega, fun _ => ⟨rfl, rfl, ?_, rfl, rfl, rfl⟩⟩⟩⟩⟩
   show (ptS l n x).code ++ [wordW (itI l n).op _ _ (IntKind.u8.wrap (IntKind.i64.wrap ((plF l g).getD (itG (itF l g) n).toNat RT.i64.dflt - (plF l g).getD n RT.i64.dflt))) (itI l n).imm] = _
   rw [e1, e2, w1]; rfl
set_option maxHeartbeats 4000000 in
theorem cput : Con ea has (G7 ++ rest) 36 kput := by
 refine gen_mk Tryz.func36 194 1 (con := [(43, kInstr), (49, kWord), (34, kkreal), (33, kaddress), (48, klkword)]) ⟨cInstr, cWord, ckreal, caddress, clkword, trivial⟩ (fun hA hr hv => ?_) (by kernel_rfl) (by kernel_rfl) Tryz.ntmps36
 unfold kput at hr; split at hr
 ·rename_i l g da its ow im pl lo q rs j
  simp only [Acc.run] at hr
  split at hr
  ·rename_i en d c z p s hq
   simp only [Acc.run] at hr
   split at hr
   ·rename_i D hd
    simp only [Acc.run] at hr
    split at hr
    ·rename_i C hc
     simp only [Acc.run] at hr
     split at hr
     ·rename_i Z hz
      simp only [Acc.run] at hr
      split at hr
      ·rename_i P hp
       simp only [Acc.run] at hr
       split at hr
       ·rename_i S hs
        split at hr
        ·rename_i hnd
         have := ret_ok hr; subst this
         refine ⟨[q], [d, c, z, p, s], [.cells [.int .u32 en, .own 1, .own 2, .own 3, .own 4, .own 5], .recs .u32 D, .recs .u32 C, .recs .i64 Z, .recs .i64 P, .recs .i64 S], [.rop [.ro .obj l, .rom .str (.flat (.int .i64) [.int .i64]) (some g), .ro .i64 da, .ro (.flat (.int .i64) [.int .i64, .bool]) its, .ro (.flat (.int .i64) [.int .i64]) ow, .ro (.fmap (.int .i64) .i64) im, .ro .i64 pl, .ro .bool lo], .ptr 0 0, .ro (.fmap (.int .i64) .rel) rs, .int .i64 j], (S1 [lkV l g da its ow im pl lo, .ptr 0 0, .ro rlT rs, .int .i64 (.full j.val)] (imHpO (⟨en.val, D, C, Z, P, S⟩ : Img)) 6 194), [(2000004, ptCut l g da its ow im pl lo rs j.val (⟨en.val, D, C, Z, P, S⟩ : Img)), (6, LptW l g da its ow im pl lo rs j.val.toNat (ptS l j.val.toNat (⟨en.val, D, C, Z, P, S⟩ : Img)))], .tuple [], (imHp (ptM l g j.val.toNat (⟨en.val, D, C, Z, P, S⟩ : Img))), 5, rfl, rfl, ⟨rfl, rfl, rfl⟩, hnd, ⟨hq, hd, hc, hz, hp, hs, trivial⟩, rfl, rfl, .of (fitput rest l g da its ow im pl lo rs j en D C Z P S) (by simp [nilR]), rfl, (fun W R ρ0 own0 hown => hl1 (by kernel_rfl) (by kernel_rfl) (lptW l g da its ow im pl lo rs j.val.toNat (ptS l j.val.toNat (⟨en.val, D, C, Z, P, S⟩ : Img)) hown)), gput l g da its ow im pl lo rs j.val ⟨en.val, D, C, Z, P, S⟩ (hv _ rfl)⟩
        ·cases hr
       ·cases hr
      ·cases hr
     ·cases hr
    ·cases hr
   ·cases hr
  ·cases hr
 ·cases hr
end
end Go.Proofs.YtacmmedhjebfjaaGreatDoor
set_option linter.unusedVariables false
set_option linter.unusedSimpArgs false
set_option linter.unusedSectionVars false
namespace Go.Proofs.YtacmmedhjebfjaaGreatDoor
open Go.RowKit Go.Sy Go.Fac
section
variable {ea : Ear} {has : Int → Prop} {rest : List (Nat × SVal)} [ht : Nonempty (EType ea)]
abbrev lkW (l : List Ob) (g : Glb) : SVal := lkV l g (oDa l l.length) (itF l g) (oOw l l.length) (imL l) (plF l g) (loF l g)
abbrev zCell : Option Cont := some (.cells [.int .u32 (.full 0), .nilslice, .nilslice, .nilslice, .nilslice, .nilslice])
abbrev oiBox (l : List Ob) (g : Glb) : Option Cont := some (.cells [.int .u32 (.full (adrL l g (glG g mainT))), .own 2, .nilslice, .own 3, .nilslice, .nilslice])
abbrev oiHp (l : List Ob) (g : Glb) (x : List Int × List Int) : List (Nat × Option Cont) := [(0, zCell), (1, oiBox l g), (2, some (.recs .u32 x.1)), (3, some (.recs .i64 x.2))]
def HimI (l : List Ob) (g : Glb) (ii : Nat) (i : Nat) : SState := { fr := [(0, lkW l g), (2, .ptr 0 0), (3, .ptr 1 0), (4, .int .i64 (.sym ii 0 1000000)), (27, .ro .obj l), (28, .int .i64 (.full l.length)), (29, .int .i64 (.sym ii 0 1000000)), (41, .ro .rel (obN l ii).drels), (42, .int .i64 (.full (obN l ii).drels.length)), (43, .int .i64 (.sym i 0 1000000))], hp := oiHp l g (dtJ l g ii ((dtO l g ii).1 ++ (obN l ii).data, (dtO l g ii).2) i), next := 4, sz := 136 }
def XimI (l : List Ob) (g : Glb) (ii : Nat) : SState := { fr := [(0, lkW l g), (2, .ptr 0 0), (3, .ptr 1 0), (27, .ro .obj l), (28, .int .i64 (.full l.length)), (29, .int .i64 (.sym ii 0 1000000))], hp := oiHp l g (dtO l g (ii + 1)), next := 4, sz := 136 }
def LimI (l : List Ob) (g : Glb) (ii : Nat) : LSum := ⟨HimI l g ii 0, fun k => k (.exit 2) (XimI l g ii), LkOk l g ∧ ii < l.length⟩
theorem bimI (rest : List (Nat × SVal)) (l : List Ob) (g : Glb) (ii : Nat) (i : Nat) : (Tr.sat (rnd1 (env (G7 ++ rest) [(34, kkreal), (33, kaddress), (35, kksym), (36, kput)]) (fun _ => True) ((obN l ii).drels.length) (HimI l g ii) 2 (XimI l g ii) i) (run (env (G7 ++ rest) [(34, kkreal), (33, kaddress), (35, kksym), (36, kput)]) [] (loopN (loopN (bodyOf Tryz.f23) 0) 0) (HimI l g ii i) .leaf)) = (
 IT (decide ((↑i : Int) < (↑(List.length (obN l ii).drels) : Int))) (RQ (0 ≤ (↑i : Int) ∧ (↑i : Int) < (↑(List.length (obN l ii).drels) : Int)) (RQ (0 ≤ (↑ii : Int) ∧ (↑ii : Int) < (↑(List.length l) : Int) ∧ 0 ≤ (List.getD (obN l ii).drels (Int.toNat (↑i : Int)) (RT.dflt RT.rel)).sym ∧ (List.getD (obN l ii).drels (Int.toNat (↑i : Int)) (RT.dflt RT.rel)).sym < (↑(List.length (List.getD l (Int.toNat (↑ii : Int)) (RT.dflt RT.obj)).syms) : Int)) (RQ (0 ≤ (↑ii : Int) ∧ (↑ii : Int) < (↑(List.length (oDa l (List.length l))) : Int)) (RQ (LkV l g (oDa l (List.length l)) (itF l g) (oOw l (List.length l)) (imL l) (plF l g) (loF l g) ∧ Own l ((realM l g (↑ii : Int) (List.getD (obN l ii).drels (Int.toNat (↑i : Int)) (RT.dflt RT.rel)).sym).fst, (realM l g (↑ii : Int) (List.getD (obN l ii).drels (Int.toNat (↑i : Int)) (RT.dflt RT.rel)).sym).snd)) (RQ (0 ≤ IntKind.wrap IntKind.i64 (List.getD (oDa l (List.length l)) (Int.toNat (↑ii : Int)) (RT.dflt RT.i64) + (List.getD (obN l ii).drels (Int.toNat (↑i : Int)) (RT.dflt RT.rel)).at_) ∧ IntKind.wrap IntKind.i64 (List.getD (oDa l (List.length l)) (Int.toNat (↑ii : Int)) (RT.dflt RT.i64) + (List.getD (obN l ii).drels (Int.toNat (↑i : Int)) (RT.dflt RT.rel)).at_) < (↑(List.length (dtJ l g ii ((dtO l g ii).fst ++ (obN l ii).data, (dtO l g ii).snd) i).fst) : Int)) (RQ (0 ≤ (realM l g (↑ii : Int) (List.getD (obN l ii).drels (Int.toNat (↑i : Int)) (RT.dflt RT.rel)).sym).fst ∧ (realM l g (↑ii : Int) (List.getD (obN l ii).drels (Int.toNat (↑i : Int)) (RT.dflt RT.rel)).sym).fst < (↑(List.length l) : Int) ∧ 0 ≤ (realM l g (↑ii : Int) (List.getD (obN l ii).drels (Int.toNat (↑i : Int)) (RT.dflt RT.rel)).sym).snd ∧ (realM l g (↑ii : Int) (List.getD (obN l ii).drels (Int.toNat (↑i : Int)) (RT.dflt RT.rel)).sym).snd < (↑(List.length (List.getD l (Int.toNat (realM l g (↑ii : Int) (List.getD (obN l ii).drels (Int.toNat (↑i : Int)) (RT.dflt RT.rel)).sym).fst) (RT.dflt RT.obj)).syms) : Int)) (IT (decide ((symAt l (realM l g (↑ii : Int) (List.getD (obN l ii).drels (Int.toNat (↑i : Int)) (RT.dflt RT.rel)).sym).fst (realM l g (↑ii : Int) (List.getD (obN l ii).drels (Int.toNat (↑i : Int)) (RT.dflt RT.rel)).sym).snd).in_ = 2)) (RQ (List.length (dtJ l g ii ((dtO l g ii).fst ++ (obN l ii).data, (dtO l g ii).snd) i).snd + List.length [IntKind.wrap IntKind.i64 (List.getD (oDa l (List.length l)) (Int.toNat (↑ii : Int)) (RT.dflt RT.i64) + (List.getD (obN l ii).drels (Int.toNat (↑i : Int)) (RT.dflt RT.rel)).at_)] ≤ 137438953472) (i < List.length (obN l ii).drels ∧ True ∧ l = l ∧ some g = some g ∧ oDa l (List.length l) = oDa l (List.length l) ∧ itF l g = itF l g ∧ oOw l (List.length l) = oOw l (List.length l) ∧ imL l = imL l ∧ plF l g = plF l g ∧ loF l g = loF l g ∧ (↑ii : Int) = (↑ii : Int) ∧ l = l ∧ (↑(List.length l) : Int) = (↑(List.length l) : Int) ∧ (↑ii : Int) = (↑ii : Int) ∧ (obN l ii).drels = (obN l ii).drels ∧ (↑(List.length (obN l ii).drels) : Int) = (↑(List.length (obN l ii).drels) : Int) ∧ (↑i : Int) + 1 = (↑(i + 1) : Int) ∧ (0 ≤ (↑(i + 1) : Int) ∧ (↑(i + 1) : Int) ≤ 1000000) ∧ (0 : Int) = (0 : Int) ∧ adrL l g (glG g mainT) = adrL l g (glG g mainT) ∧ List.set (dtJ l g ii ((dtO l g ii).fst ++ (obN l ii).data, (dtO l g ii).snd) i).fst (Int.toNat (IntKind.wrap IntKind.i64 (List.getD (oDa l (List.length l)) (Int.toNat (↑ii : Int)) (RT.dflt RT.i64) + (List.getD (obN l ii).drels (Int.toNat (↑i : Int)) (RT.dflt RT.rel)).at_))) (IntKind.wrap IntKind.u32 (adrL l g ((realM l g (↑ii : Int) (List.getD (obN l ii).drels (Int.toNat (↑i : Int)) (RT.dflt RT.rel)).sym).fst, (realM l g (↑ii : Int) (List.getD (obN l ii).drels (Int.toNat (↑i : Int)) (RT.dflt RT.rel)).sym).snd) + IntKind.wrap IntKind.u32 (List.getD (obN l ii).drels (Int.toNat (↑i : Int)) (RT.dflt RT.rel)).add)) = (dtJ l g ii ((dtO l g ii).fst ++ (obN l ii).data, (dtO l g ii).snd) (i + 1)).fst ∧ (dtJ l g ii ((dtO l g ii).fst ++ (obN l ii).data, (dtO l g ii).snd) i).snd ++ [IntKind.wrap IntKind.i64 (List.getD (oDa l (List.length l)) (Int.toNat (↑ii : Int)) (RT.dflt RT.i64) + (List.getD (obN l ii).drels (Int.toNat (↑i : Int)) (RT.dflt RT.rel)).at_)] = (dtJ l g ii ((dtO l g ii).fst ++ (obN l ii).data, (dtO l g ii).snd) (i + 1)).snd)) (i < List.length (obN l ii).drels ∧ True ∧ l = l ∧ some g = some g ∧ oDa l (List.length l) = oDa l (List.length l) ∧ itF l g = itF l g ∧ oOw l (List.length l) = oOw l (List.length l) ∧ imL l = imL l ∧ plF l g = plF l g ∧ loF l g = loF l g ∧ (↑ii : Int) = (↑ii : Int) ∧ l = l ∧ (↑(List.length l) : Int) = (↑(List.length l) : Int) ∧ (↑ii : Int) = (↑ii : Int) ∧ (obN l ii).drels = (obN l ii).drels ∧ (↑(List.length (obN l ii).drels) : Int) = (↑(List.length (obN l ii).drels) : Int) ∧ (↑i : Int) + 1 = (↑(i + 1) : Int) ∧ (0 ≤ (↑(i + 1) : Int) ∧ (↑(i + 1) : Int) ≤ 1000000) ∧ (0 : Int) = (0 : Int) ∧ adrL l g (glG g mainT) = adrL l g (glG g mainT) ∧ List.set (dtJ l g ii ((dtO l g ii).fst ++ (obN l ii).data, (dtO l g ii).snd) i).fst (Int.toNat (IntKind.wrap IntKind.i64 (List.getD (oDa l (List.length l)) (Int.toNat (↑ii : Int)) (RT.dflt RT.i64) + (List.getD (obN l ii).drels (Int.toNat (↑i : Int)) (RT.dflt RT.rel)).at_))) (IntKind.wrap IntKind.u32 (adrL l g ((realM l g (↑ii : Int) (List.getD (obN l ii).drels (Int.toNat (↑i : Int)) (RT.dflt RT.rel)).sym).fst, (realM l g (↑ii : Int) (List.getD (obN l ii).drels (Int.toNat (↑i : Int)) (RT.dflt RT.rel)).sym).snd) + IntKind.wrap IntKind.u32 (List.getD (obN l ii).drels (Int.toNat (↑i : Int)) (RT.dflt RT.rel)).add)) = (dtJ l g ii ((dtO l g ii).fst ++ (obN l ii).data, (dtO l g ii).snd) (i + 1)).fst ∧ (dtJ l g ii ((dtO l g ii).fst ++ (obN l ii).data, (dtO l g ii).snd) i).snd = (dtJ l g ii ((dtO l g ii).fst ++ (obN l ii).data, (dtO l g ii).snd) (i + 1)).snd)))))))) (Nat.beq (2 : Nat) (2 : Nat) = true ∧ l = l ∧ some g = some g ∧ oDa l (List.length l) = oDa l (List.length l) ∧ itF l g = itF l g ∧ oOw l (List.length l) = oOw l (List.length l) ∧ imL l = imL l ∧ plF l g = plF l g ∧ loF l g = loF l g ∧ l = l ∧ (↑(List.length l) : Int) = (↑(List.length l) : Int) ∧ (↑ii : Int) = (↑ii : Int) ∧ (0 : Int) = (0 : Int) ∧ adrL l g (glG g mainT) = adrL l g (glG g mainT) ∧ (dtJ l g ii ((dtO l g ii).fst ++ (obN l ii).data, (dtO l g ii).snd) i).fst = (dtO l g (ii + 1)).fst ∧ (dtJ l g ii ((dtO l g ii).fst ++ (obN l ii).data, (dtO l g ii).snd) i).snd = (dtO l g (ii + 1)).snd)) := by kernel_rfl
set_option maxHeartbeats 4000000 in
theorem limI (l : List Ob) (g : Glb) (ii : Nat) {W : World} {R own0 : Nat → Prop} {ρ0 : Nat → Option Value} (hown : HownOk (env (G7 ++ rest) [(34, kkreal), (33, kaddress), (35, kksym), (36, kput)]) own0 ρ0) : LOk Tryz.prog (env (G7 ++ rest) [(34, kkreal), (33, kaddress), (35, kksym), (36, kput)]) (ctx ea has) (G7 ++ rest) W R own0 ρ0 (loopN (loopN (bodyOf Tryz.f23) 0) 0) (LimI l g ii) := by
 refine loop1_ok (J := fun _ => True) (N := (obN l ii).drels.length) (H := HimI l g ii) (X := XimI l g ii) (env_ok (con := [(34, kkreal), (33, kaddress), (35, kksym), (36, kput)]) ⟨ckreal, caddress, cksym, cput, trivial⟩) hown (ls := fun i => []) (fun i => noSums (by kernel_rfl)) (fun hm i hi hj => ?_) 0 (fun hm => by first | exact Nat.zero_le _ | omega) (fun hm => trivial)
 rw [bimI rest l g ii i]
 delta RQ IT
 obtain ⟨K, hii⟩ := hm
 have V := K.nm.val ii hii
 have L := dtJ_len l g ii ((dtO l g ii).1 ++ (obN l ii).data, (dtO l g ii).2) i
 have hO := dtO_len l g ii
 have hR := dtO_ref K.nm ii (by omega)
 have hf := K.nm.few
 have hdr := V.drels
 have hda : (oDa l l.length).length = l.length := oDa_len l _
 have hd : (oDa l l.length).getD ii RT.i64.dflt = oDn l ii := oDa_get l _ _ _ hii
 have hdn := K.dn hii
 have hs : dtJ l g ii ((dtO l g ii).1 ++ (obN l ii).data, (dtO l g ii).2) (i + 1) = dtS l g ii i (dtJ l g ii ((dtO l g ii).1 ++ (obN l ii).data, (dtO l g ii).2) i) := rfl
 have L1 : (dtJ l g ii ((dtO l g ii).1 ++ (obN l ii).data, (dtO l g ii).2) i).1.length = (dtO l g ii).1.length + (obN l ii).data.length := by rw [L.1, List.length_append]
 have L2 : (dtJ l g ii ((dtO l g ii).1 ++ (obN l ii).data, (dtO l g ii).2) i).2.length ≤ (dtO l g ii).2.length + i := L.2
 have hend : i = (obN l ii).drels.length → dtO l g (ii + 1) = dtJ l g ii ((dtO l g ii).1 ++ (obN l ii).data, (dtO l g ii).2) i := fun e => by rw [e]; rfl
 simp only [Int.toNat_natCast, eq_self, true_and, and_true]
 rw [hs]
 generalize dtJ l g ii ((dtO l g ii).1 ++ (obN l ii).data, (dtO l g ii).2) i = x at *
 have hS : dtS l g ii i x = _ := dtS.eq_1 l g ii i x
 refine ⟨fun h => ?_, fun h => ?_⟩
 ·have h := of_decide_eq_true h
  have hlt : i < (obN l ii).drels.length := by omega
  obtain ⟨c1, c2, c3, c4, c5, c6, _⟩ := V.drel hlt _ rfl
  have O := K.nm.own hii c3 c4
  have hb2 : 0 ≤ (realM l g ii (drlN l ii i).sym).1 ∧ (realM l g ii (drlN l ii i).sym).1 < l.length ∧ 0 ≤ (realM l g ii (drlN l ii i).sym).2 ∧ (realM l g ii (drlN l ii i).sym).2 < ((obN l (realM l g ii (drlN l ii i).sym).1.toNat).syms.length : Nat) := by
   obtain ⟨p, q, e, h1, h2, _⟩ := O
   rw [e]; simp only [Int.toNat_natCast]; omega
  have w : IntKind.i64.wrap (oDn l ii + (drlN l ii i).at_) = oDn l ii + (drlN l ii i).at_ := by
   show IntKind.i64.wrap (oDn l ii + ((obN l ii).drels.getD i RT.rel.dflt).at_) = oDn l ii + ((obN l ii).drels.getD i RT.rel.dflt).at_
   rw [IntKind.wrap_i64]; omega
  have ww : IntKind.i64.wrap ((oDa l l.length).getD ii RT.i64.dflt + ((obN l ii).drels.getD i RT.rel.dflt).at_) = oDn l ii + (drlN l ii i).at_ := by rw [hd]; exact w
  rw [ww]
  refine ⟨by omega, fun _ => ⟨⟨by omega, by omega, c3, c4⟩, fun _ => ⟨by omega, fun _ => ⟨⟨⟨K, rfl, rfl, rfl, rfl, rfl, rfl⟩, O⟩, fun _ => ⟨?_, fun _ => ⟨hb2, fun _ => ⟨fun g1 => ?_, fun g1 => ?_⟩⟩⟩⟩⟩⟩⟩
  ·show 0 ≤ oDn l ii + ((obN l ii).drels.getD i RT.rel.dflt).at_ ∧ oDn l ii + ((obN l ii).drels.getD i RT.rel.dflt).at_ < (x.1.length : Nat)
   omega
  ·have g1 := of_decide_eq_true g1
   rw [if_pos g1] at hS
   rw [hS]
   exact ⟨by simp only [List.length_singleton]; omega, fun _ => ⟨hlt, by omega, by omega, rfl, rfl⟩⟩
  ·have g1 := of_decide_eq_false g1
   rw [if_neg g1] at hS
   rw [hS]
   exact ⟨hlt, by omega, by omega, rfl, rfl⟩
 ·have h := of_decide_eq_false h
  rw [hend (by omega)]
  exact ⟨rfl, rfl, rfl⟩
def HimA (l : List Ob) (g : Glb) (i : Nat) : SState := { fr := [(0, lkW l g), (2, .ptr 0 0), (3, .ptr 1 0), (27, .ro .obj l), (28, .int .i64 (.full l.length)), (29, .int .i64 (.sym i 0 1000000))], hp := oiHp l g (dtO l g i), next := 4, sz := 136 }
def XimA (l : List Ob) (g : Glb) : SState := { fr := [(0, lkW l g), (2, .ptr 0 0), (3, .ptr 1 0)], hp := oiHp l g (dtO l g l.length), next := 4, sz := 136 }
def LimA (l : List Ob) (g : Glb) : LSum := ⟨HimA l g 0, fun k => k (.exit 0) (XimA l g), LkOk l g⟩
theorem bimA (rest : List (Nat × SVal)) (l : List Ob) (g : Glb) (i : Nat) : (Tr.sat (rnd1 (env (G7 ++ rest) [(34, kkreal), (33, kaddress), (35, kksym), (36, kput)]) (fun _ => True) (l.length) (HimA l g) 0 (XimA l g) i) (run (env (G7 ++ rest) [(34, kkreal), (33, kaddress), (35, kksym), (36, kput)]) [(7, LimI l g i)] (loopN (bodyOf Tryz.f23) 0) (HimA l g i) .leaf)) = (
 IT (decide ((↑i : Int) < (↑(List.length l) : Int))) (RQ (0 ≤ (↑i : Int) ∧ (↑i : Int) < (↑(List.length l) : Int)) (RQ (List.length (dtO l g i).fst + List.length (List.getD l (Int.toNat (↑i : Int)) (RT.dflt RT.obj)).data ≤ 137438953472) (RQ ((LkOk l g ∧ i < List.length l) ∧ l = l ∧ some g = some g ∧ oDa l (List.length l) = oDa l (List.length l) ∧ itF l g = itF l g ∧ oOw l (List.length l) = oOw l (List.length l) ∧ imL l = imL l ∧ plF l g = plF l g ∧ loF l g = loF l g ∧ (↑i : Int) = (↑i : Int) ∧ l = l ∧ (↑(List.length l) : Int) = (↑(List.length l) : Int) ∧ (↑i : Int) = (↑i : Int) ∧ (List.getD l (Int.toNat (↑i : Int)) (RT.dflt RT.obj)).drels = (obN l i).drels ∧ (↑(List.length (List.getD l (Int.toNat (↑i : Int)) (RT.dflt RT.obj)).drels) : Int) = (↑(List.length (obN l i).drels) : Int) ∧ (0 : Int) = (↑(0 : Nat) : Int) ∧ (0 : Int) = (0 : Int) ∧ adrL l g (glG g mainT) = adrL l g (glG g mainT) ∧ (dtO l g i).fst ++ (List.getD l (Int.toNat (↑i : Int)) (RT.dflt RT.obj)).data = (dtJ l g i ((dtO l g i).fst ++ (obN l i).data, (dtO l g i).snd) (0 : Nat)).fst ∧ (dtO l g i).snd = (dtJ l g i ((dtO l g i).fst ++ (obN l i).data, (dtO l g i).snd) (0 : Nat)).snd) (i < List.length l ∧ True ∧ l = l ∧ some g = some g ∧ oDa l (List.length l) = oDa l (List.length l) ∧ itF l g = itF l g ∧ oOw l (List.length l) = oOw l (List.length l) ∧ imL l = imL l ∧ plF l g = plF l g ∧ loF l g = loF l g ∧ l = l ∧ (↑(List.length l) : Int) = (↑(List.length l) : Int) ∧ (↑i : Int) + 1 = (↑(i + 1) : Int) ∧ (0 ≤ (↑(i + 1) : Int) ∧ (↑(i + 1) : Int) ≤ 1000000) ∧ (0 : Int) = (0 : Int) ∧ adrL l g (glG g mainT) = adrL l g (glG g mainT) ∧ (dtO l g (i + 1)).fst = (dtO l g (i + 1)).fst ∧ (dtO l g (i + 1)).snd = (dtO l g (i + 1)).snd)))) (Nat.beq (0 : Nat) (0 : Nat) = true ∧ l = l ∧ some g = some g ∧ oDa l (List.length l) = oDa l (List.length l) ∧ itF l g = itF l g ∧ oOw l (List.length l) = oOw l (List.length l) ∧ imL l = imL l ∧ plF l g = plF l g ∧ loF l g = loF l g ∧ (0 : Int) = (0 : Int) ∧ adrL l g (glG g mainT) = adrL l g (glG g mainT) ∧ (dtO l g i).fst = (dtO l g (List.length l)).fst ∧ (dtO l g i).snd = (dtO l g (List.length l)).snd)) := by kernel_rfl
set_option maxHeartbeats 4000000 in
theorem limA (l : List Ob) (g : Glb) {W : World} {R own0 : Nat → Prop} {ρ0 : Nat → Option Value} (hown : HownOk (env (G7 ++ rest) [(34, kkreal), (33, kaddress), (35, kksym), (36, kput)]) own0 ρ0) : LOk Tryz.prog (env (G7 ++ rest) [(34, kkreal), (33, kaddress), (35, kksym), (36, kput)]) (ctx ea has) (G7 ++ rest) W R own0 ρ0 (loopN (bodyOf Tryz.f23) 0) (LimA l g) := by
 refine loop1_ok (J := fun _ => True) (N := l.length) (H := HimA l g) (X := XimA l g) (env_ok (con := [(34, kkreal), (33, kaddress), (35, kksym), (36, kput)]) ⟨ckreal, caddress, cksym, cput, trivial⟩) hown (ls := fun i => [(7, LimI l g i)]) (fun i => hl1 (by kernel_rfl) (by kernel_rfl) (limI l g i hown)) (fun hm i hi hj => ?_) 0 (fun hm => by first | exact Nat.zero_le _ | omega) (fun hm => trivial)
 rw [bimA rest l g i]
 delta RQ IT
 have K := hm
 have hf := K.nm.few
 simp only [Int.toNat_natCast, eq_self, true_and, and_true]
 refine ⟨fun h => ?_, fun h => ?_⟩
 ·have h := of_decide_eq_true h
  have hlt : i < l.length := by omega
  have V := K.nm.val i hlt
  have hd := V.data
  have hO := dtO_len l g i
  have hdn := K.dn hlt
  exact ⟨by omega, fun _ => ⟨by show (dtO l g i).1.length + (obN l i).data.length ≤ _; omega, fun _ => ⟨⟨⟨K, hlt⟩, rfl, rfl, rfl⟩, fun _ => ⟨hlt, by omega, by omega⟩⟩⟩⟩
 ·have h := of_decide_eq_false h
  have : i = l.length := by omega
  subst this
  exact ⟨rfl, rfl, rfl⟩
def HimJ (l : List Ob) (g : Glb) (ii : Nat) (i : Nat) : SState := { fr := [(0, lkW l g), (2, .ptr 0 0), (3, .ptr 1 0), (10, .own 4), (11, .int .i64 (.sym ii 0 1000000)), (95, .ro .obj l), (96, .int .i64 (.full l.length)), (97, .int .i64 (.sym ii 0 1000000)), (107, .ro .rel (obN l ii).crels), (108, .int .i64 (.full (obN l ii).crels.length)), (109, .int .i64 (.sym i 0 1000000))], hp := oiHp l g (dtO l g l.length) ++ [(4, some (.opn (.int .i64) .rel (rsU l ii) ii (.map 5))), (5, some (.gmap (.int .i64) .rel (rlP (obN l ii).crels i)))], next := 6, sz := 136 }
def XimJ (l : List Ob) (g : Glb) (ii : Nat) : SState := { fr := [(0, lkW l g), (2, .ptr 0 0), (3, .ptr 1 0), (10, .own 4), (95, .ro .obj l), (96, .int .i64 (.full l.length)), (97, .int .i64 (.sym ii 0 1000000))], hp := oiHp l g (dtO l g l.length) ++ [(4, some (.recs rlT (rsU l (ii + 1))))], next := 5, sz := 136 }
def LimJ (l : List Ob) (g : Glb) (ii : Nat) : LSum := ⟨HimJ l g ii 0, fun k => k (.exit 6) (XimJ l g ii), LkOk l g ∧ ii < l.length⟩
theorem bimJ (rest : List (Nat × SVal)) (l : List Ob) (g : Glb) (ii : Nat) (i : Nat) : (Tr.sat (rnd1 (env (G7 ++ rest) [(34, kkreal), (33, kaddress), (35, kksym), (36, kput)]) (fun _ => True) ((obN l ii).crels.length) (HimJ l g ii) 6 (XimJ l g ii) i) (run (env (G7 ++ rest) [(34, kkreal), (33, kaddress), (35, kksym), (36, kput)]) [] (loopN (loopN (bodyOf Tryz.f23) 1) 0) (HimJ l g ii i) .leaf)) = (
 IT (decide ((↑i : Int) < (↑(List.length (obN l ii).crels) : Int))) (RQ (0 ≤ (↑i : Int) ∧ (↑i : Int) < (↑(List.length (obN l ii).crels) : Int)) (RQ (0 ≤ (↑ii : Int) ∧ (↑ii : Int) < (↑(List.length (rsU l ii)) : Int)) (RQ ((↑ii : Int) = (↑ii : Int)) (i < List.length (obN l ii).crels ∧ True ∧ l = l ∧ some g = some g ∧ oDa l (List.length l) = oDa l (List.length l) ∧ itF l g = itF l g ∧ oOw l (List.length l) = oOw l (List.length l) ∧ imL l = imL l ∧ plF l g = plF l g ∧ loF l g = loF l g ∧ (↑ii : Int) = (↑ii : Int) ∧ l = l ∧ (↑(List.length l) : Int) = (↑(List.length l) : Int) ∧ (↑ii : Int) = (↑ii : Int) ∧ (obN l ii).crels = (obN l ii).crels ∧ (↑(List.length (obN l ii).crels) : Int) = (↑(List.length (obN l ii).crels) : Int) ∧ (↑i : Int) + 1 = (↑(i + 1) : Int) ∧ (0 ≤ (↑(i + 1) : Int) ∧ (↑(i + 1) : Int) ≤ 1000000) ∧ (0 : Int) = (0 : Int) ∧ adrL l g (glG g mainT) = adrL l g (glG g mainT) ∧ (dtO l g (List.length l)).fst = (dtO l g (List.length l)).fst ∧ (dtO l g (List.length l)).snd = (dtO l g (List.length l)).snd ∧ rsU l ii = rsU l ii ∧ (↑ii : Int) = (↑ii : Int) ∧ some (gPut (rlP (obN l ii).crels i) (List.getD (obN l ii).crels (Int.toNat (↑i : Int)) (RT.dflt RT.rel)).at_ (List.getD (obN l ii).crels (Int.toNat (↑i : Int)) (RT.dflt RT.rel))) = some (rlP (obN l ii).crels (i + 1)))))) (Nat.beq (6 : Nat) (6 : Nat) = true ∧ l = l ∧ some g = some g ∧ oDa l (List.length l) = oDa l (List.length l) ∧ itF l g = itF l g ∧ oOw l (List.length l) = oOw l (List.length l) ∧ imL l = imL l ∧ plF l g = plF l g ∧ loF l g = loF l g ∧ l = l ∧ (↑(List.length l) : Int) = (↑(List.length l) : Int) ∧ (↑ii : Int) = (↑ii : Int) ∧ (0 : Int) = (0 : Int) ∧ adrL l g (glG g mainT) = adrL l g (glG g mainT) ∧ (dtO l g (List.length l)).fst = (dtO l g (List.length l)).fst ∧ (dtO l g (List.length l)).snd = (dtO l g (List.length l)).snd ∧ List.set (rsU l ii) (Int.toNat (↑ii : Int)) (some (rlP (obN l ii).crels i)) = rsU l (ii + 1))) := by kernel_rfl
set_option maxHeartbeats 4000000 in
theorem limJ (l : List Ob) (g : Glb) (ii : Nat) {W : World} {R own0 : Nat → Prop} {ρ0 : Nat → Option Value} (hown : HownOk (env (G7 ++ rest) [(34, kkreal), (33, kaddress), (35, kksym), (36, kput)]) own0 ρ0) : LOk Tryz.prog (env (G7 ++ rest) [(34, kkreal), (33, kaddress), (35, kksym), (36, kput)]) (ctx ea has) (G7 ++ rest) W R own0 ρ0 (loopN (loopN (bodyOf Tryz.f23) 1) 0) (LimJ l g ii) := by
 refine loop1_ok (J := fun _ => True) (N := (obN l ii).crels.length) (H := HimJ l g ii) (X := XimJ l g ii) (env_ok (con := [(34, kkreal), (33, kaddress), (35, kksym), (36, kput)]) ⟨ckreal, caddress, cksym, cput, trivial⟩) hown (ls := fun i => []) (fun i => noSums (by kernel_rfl)) (fun hm i hi hj => ?_) 0 (fun hm => by first | exact Nat.zero_le _ | omega) (fun hm => trivial)
 rw [bimJ rest l g ii i]
 delta RQ IT
 obtain ⟨K, hii⟩ := hm
 have hcr := (K.nm.val ii hii).crels
 have hrs := rsU_len l ii
 simp only [Int.toNat_natCast, eq_self, true_and, and_true]
 refine ⟨fun h => ?_, fun h => ?_⟩
 ·have h := of_decide_eq_true h
  have hlt : i < (obN l ii).crels.length := by omega
  exact ⟨by omega, fun _ => ⟨by omega, fun _ _ => ⟨hlt, by omega, by omega, rfl⟩⟩⟩
 ·have h := of_decide_eq_false h
  have : i = (obN l ii).crels.length := by omega
  subst this
  exact ⟨rfl, rfl⟩
def HimB (l : List Ob) (g : Glb) (i : Nat) : SState := { fr := [(0, lkW l g), (2, .ptr 0 0), (3, .ptr 1 0), (10, .own 4), (95, .ro .obj l), (96, .int .i64 (.full l.length)), (97, .int .i64 (.sym i 0 1000000))], hp := oiHp l g (dtO l g l.length) ++ [(4, some (.recs rlT (rsU l i)))], next := 5, sz := 136 }
def XimB (l : List Ob) (g : Glb) : SState := { fr := [(0, lkW l g), (2, .ptr 0 0), (3, .ptr 1 0), (10, .own 4)], hp := oiHp l g (dtO l g l.length) ++ [(4, some (.recs rlT (rsL l)))], next := 5, sz := 136 }
def LimB (l : List Ob) (g : Glb) : LSum := ⟨HimB l g 0, fun k => k (.exit 4) (XimB l g), LkOk l g⟩
theorem bimB (rest : List (Nat × SVal)) (l : List Ob) (g : Glb) (i : Nat) : (Tr.sat (rnd1 (env (G7 ++ rest) [(34, kkreal), (33, kaddress), (35, kksym), (36, kput)]) (fun _ => True) (l.length) (HimB l g) 4 (XimB l g) i) (run (env (G7 ++ rest) [(34, kkreal), (33, kaddress), (35, kksym), (36, kput)]) [(22, LimJ l g i)] (loopN (bodyOf Tryz.f23) 1) (HimB l g i) .leaf)) = (
 IT (decide ((↑i : Int) < (↑(List.length l) : Int))) (RQ (0 ≤ (↑i : Int) ∧ (↑i : Int) < (↑(List.length l) : Int)) (RQ (0 ≤ (↑i : Int) ∧ (↑i : Int) < (↑(List.length (rsU l i)) : Int)) (RQ ((LkOk l g ∧ i < List.length l) ∧ l = l ∧ some g = some g ∧ oDa l (List.length l) = oDa l (List.length l) ∧ itF l g = itF l g ∧ oOw l (List.length l) = oOw l (List.length l) ∧ imL l = imL l ∧ plF l g = plF l g ∧ loF l g = loF l g ∧ (↑i : Int) = (↑i : Int) ∧ l = l ∧ (↑(List.length l) : Int) = (↑(List.length l) : Int) ∧ (↑i : Int) = (↑i : Int) ∧ (List.getD l (Int.toNat (↑i : Int)) (RT.dflt RT.obj)).crels = (obN l i).crels ∧ (↑(List.length (List.getD l (Int.toNat (↑i : Int)) (RT.dflt RT.obj)).crels) : Int) = (↑(List.length (obN l i).crels) : Int) ∧ (0 : Int) = (↑(0 : Nat) : Int) ∧ (0 : Int) = (0 : Int) ∧ adrL l g (glG g mainT) = adrL l g (glG g mainT) ∧ (dtO l g (List.length l)).fst = (dtO l g (List.length l)).fst ∧ (dtO l g (List.length l)).snd = (dtO l g (List.length l)).snd ∧ rsU l i = rsU l i ∧ (↑i : Int) = (↑i : Int) ∧ some (@List.nil (FK.ty (FK.int IntKind.i64) × RT.ty RT.rel)) = some (rlP (obN l i).crels (0 : Nat))) (i < List.length l ∧ True ∧ l = l ∧ some g = some g ∧ oDa l (List.length l) = oDa l (List.length l) ∧ itF l g = itF l g ∧ oOw l (List.length l) = oOw l (List.length l) ∧ imL l = imL l ∧ plF l g = plF l g ∧ loF l g = loF l g ∧ l = l ∧ (↑(List.length l) : Int) = (↑(List.length l) : Int) ∧ (↑i : Int) + 1 = (↑(i + 1) : Int) ∧ (0 ≤ (↑(i + 1) : Int) ∧ (↑(i + 1) : Int) ≤ 1000000) ∧ (0 : Int) = (0 : Int) ∧ adrL l g (glG g mainT) = adrL l g (glG g mainT) ∧ (dtO l g (List.length l)).fst = (dtO l g (List.length l)).fst ∧ (dtO l g (List.length l)).snd = (dtO l g (List.length l)).snd ∧ rsU l (i + 1) = rsU l (i + 1))))) (Nat.beq (4 : Nat) (4 : Nat) = true ∧ l = l ∧ some g = some g ∧ oDa l (List.length l) = oDa l (List.length l) ∧ itF l g = itF l g ∧ oOw l (List.length l) = oOw l (List.length l) ∧ imL l = imL l ∧ plF l g = plF l g ∧ loF l g = loF l g ∧ (0 : Int) = (0 : Int) ∧ adrL l g (glG g mainT) = adrL l g (glG g mainT) ∧ (dtO l g (List.length l)).fst = (dtO l g (List.length l)).fst ∧ (dtO l g (List.length l)).snd = (dtO l g (List.length l)).snd ∧ rsU l i = rsL l)) := by kernel_rfl
set_option maxHeartbeats 4000000 in
theorem limB (l : List Ob) (g : Glb) {W : World} {R own0 : Nat → Prop} {ρ0 : Nat → Option Value} (hown : HownOk (env (G7 ++ rest) [(34, kkreal), (33, kaddress), (35, kksym), (36, kput)]) own0 ρ0) : LOk Tryz.prog (env (G7 ++ rest) [(34, kkreal), (33, kaddress), (35, kksym), (36, kput)]) (ctx ea has) (G7 ++ rest) W R own0 ρ0 (loopN (bodyOf Tryz.f23) 1) (LimB l g) := by
 refine loop1_ok (J := fun _ => True) (N := l.length) (H := HimB l g) (X := XimB l g) (env_ok (con := [(34, kkreal), (33, kaddress), (35, kksym), (36, kput)]) ⟨ckreal, caddress, cksym, cput, trivial⟩) hown (ls := fun i => [(22, LimJ l g i)]) (fun i => hl1 (by kernel_rfl) (by kernel_rfl) (limJ l g i hown)) (fun hm i hi hj => ?_) 0 (fun hm => by first | exact Nat.zero_le _ | omega) (fun hm => trivial)
 rw [bimB rest l g i]
 delta RQ IT
 have K := hm
 have hf := K.nm.few
 have hrs := rsU_len l i
 simp only [Int.toNat_natCast, eq_self, true_and, and_true]
 refine ⟨fun h => ?_, fun h => ?_⟩
 ·have h := of_decide_eq_true h
  have hlt : i < l.length := by omega
  exact ⟨by omega, fun _ => ⟨by omega, fun _ => ⟨⟨⟨K, hlt⟩, rfl, rfl⟩, fun _ => ⟨hlt, by omega, by omega⟩⟩⟩⟩
 ·have h := of_decide_eq_false h
  have : i = l.length := by omega
  subst this
  exact ⟨rfl, rfl⟩
abbrev piHp (x : Img) : List (Nat × Option Cont) := [(0, zCell), (1, some (.cells [.int .u32 (.full x.entry), .own 2, .own 3, .own 4, .own 5, .own 6])), (2, some (.recs .u32 x.data)), (3, some (.recs .u32 x.code)), (4, some (.recs .i64 x.drefs)), (5, some (.recs .i64 x.places)), (6, some (.recs .i64 x.starts))]
def HimP (l : List Ob) (g : Glb) (i : Nat) : SState := { fr := [(0, lkW l g), (2, .ptr 0 0), (3, .ptr 1 0), (10, .ro rlT (rsL l)), (126, .int .i64 (.full (itF l g).length)), (127, .int .i64 (.sym i 0 1000000))], hp := piHp (ptN l g i), next := 7, sz := 136 }
def XimP (l : List Ob) (g : Glb) : SState := { fr := [(2, .ptr 0 0), (3, .ptr 1 0)], hp := piHp (ptN l g (itF l g).length), next := 7, sz := 136 }
def LimP (l : List Ob) (g : Glb) : LSum := ⟨HimP l g 0, fun k => k (.exit 8) (XimP l g), LkOk l g⟩
theorem bimP (rest : List (Nat × SVal)) (l : List Ob) (g : Glb) (i : Nat) : (Tr.sat (rnd1 (env (G7 ++ rest) [(34, kkreal), (33, kaddress), (35, kksym), (36, kput)]) (fun _ => True) ((itF l g).length) (HimP l g) 8 (XimP l g) i) (run (env (G7 ++ rest) [(34, kkreal), (33, kaddress), (35, kksym), (36, kput)]) [] (loopN (bodyOf Tryz.f23) 2) (HimP l g i) .leaf)) = (
 IT (decide ((↑i : Int) < (↑(List.length (itF l g)) : Int))) (RQ (LkV l g (oDa l (List.length l)) (itF l g) (oOw l (List.length l)) (imL l) (plF l g) (loF l g) ∧ rsL l = rsL l ∧ List.length (ptN l g i).code ≤ 9000 ∧ List.length (ptN l g i).places ≤ 9000 ∧ List.length (ptN l g i).starts ≤ 9000 ∧ 0 ≤ (↑i : Int) ∧ (↑i : Int) < (↑(List.length (itF l g)) : Int)) (i < List.length (itF l g) ∧ True ∧ l = l ∧ some g = some g ∧ oDa l (List.length l) = oDa l (List.length l) ∧ itF l g = itF l g ∧ oOw l (List.length l) = oOw l (List.length l) ∧ imL l = imL l ∧ plF l g = plF l g ∧ loF l g = loF l g ∧ rsL l = rsL l ∧ (↑(List.length (itF l g)) : Int) = (↑(List.length (itF l g)) : Int) ∧ (↑i : Int) + 1 = (↑(i + 1) : Int) ∧ (0 ≤ (↑(i + 1) : Int) ∧ (↑(i + 1) : Int) ≤ 1000000) ∧ (0 : Int) = (0 : Int) ∧ (ptM l g (Int.toNat (↑i : Int)) (ptN l g i)).entry = (ptN l g (i + 1)).entry ∧ (ptM l g (Int.toNat (↑i : Int)) (ptN l g i)).data = (ptN l g (i + 1)).data ∧ (ptM l g (Int.toNat (↑i : Int)) (ptN l g i)).code = (ptN l g (i + 1)).code ∧ (ptM l g (Int.toNat (↑i : Int)) (ptN l g i)).drefs = (ptN l g (i + 1)).drefs ∧ (ptM l g (Int.toNat (↑i : Int)) (ptN l g i)).places = (ptN l g (i + 1)).places ∧ (ptM l g (Int.toNat (↑i : Int)) (ptN l g i)).starts = (ptN l g (i + 1)).starts)) (Nat.beq (8 : Nat) (8 : Nat) = true ∧ (0 : Int) = (0 : Int) ∧ (ptN l g i).entry = (ptN l g (List.length (itF l g))).entry ∧ (ptN l g i).data = (ptN l g (List.length (itF l g))).data ∧ (ptN l g i).code = (ptN l g (List.length (itF l g))).code ∧ (ptN l g i).drefs = (ptN l g (List.length (itF l g))).drefs ∧ (ptN l g i).places = (ptN l g (List.length (itF l g))).places ∧ (ptN l g i).starts = (ptN l g (List.length (itF l g))).starts)) := by kernel_rfl
set_option maxHeartbeats 4000000 in
theorem limP (l : List Ob) (g : Glb) {W : World} {R own0 : Nat → Prop} {ρ0 : Nat → Option Value} (hown : HownOk (env (G7 ++ rest) [(34, kkreal), (33, kaddress), (35, kksym), (36, kput)]) own0 ρ0) : LOk Tryz.prog (env (G7 ++ rest) [(34, kkreal), (33, kaddress), (35, kksym), (36, kput)]) (ctx ea has) (G7 ++ rest) W R own0 ρ0 (loopN (bodyOf Tryz.f23) 2) (LimP l g) := by
 refine loop1_ok (J := fun _ => True) (N := (itF l g).length) (H := HimP l g) (X := XimP l g) (env_ok (con := [(34, kkreal), (33, kaddress), (35, kksym), (36, kput)]) ⟨ckreal, caddress, cksym, cput, trivial⟩) hown (ls := fun i => []) (fun i => noSums (by kernel_rfl)) (fun hm i hi hj => ?_) 0 (fun hm => by first | exact Nat.zero_le _ | omega) (fun hm => trivial)
 rw [bimP rest l g i]
 delta RQ IT
 have K := hm
 have hb := K.bs
 have L := ptN_len l g i
 simp only [Int.toNat_natCast, eq_self, true_and, and_true]
 refine ⟨fun h => ?_, fun h => ?_⟩
 ·have h := of_decide_eq_true h
  have hlt : i < (itF l g).length := by omega
  exact ⟨⟨⟨K, rfl, rfl, rfl, rfl, rfl, rfl⟩, by omega, by omega, by omega, by omega, by omega⟩, fun _ => ⟨hlt, by omega, by omega, rfl, rfl, rfl, rfl, rfl, rfl⟩⟩
 ·have h := of_decide_eq_false h
  have : i = (itF l g).length := by omega
  rw [this]
  exact ⟨rfl, rfl, rfl, rfl, rfl, rfl, rfl⟩
def kimage : List SVal → Nat → Acc ORes := fun a n => match a with | [.rop [.ro .obj l, .rom .str (.flat (.int .i64) [.int .i64]) (some g), .ro .i64 da, .ro (.flat (.int .i64) [.int .i64, .bool]) its, .ro (.flat (.int .i64) [.int .i64]) ow, .ro (.fmap (.int .i64) .i64) im, .ro .i64 pl, .ro .bool lo]] => .ret ({ v := .agg [.int .u32 (.full (imgM l g).entry), .ro .u32 (imgM l g).data, .ro .u32 (imgM l g).code, .ro .i64 (imgM l g).drefs, .ro .i64 (imgM l g).places, .ro .i64 (imgM l g).starts], vc := some (LkV l g da its ow im pl lo ∧ noMain l g = false) }) | _ => .fail "image"
theorem argimage (l : List Ob) (g : Glb) (da : List Int) (its : List itT.ty) (ow : List (Int × Int)) (im : List (Option Mp)) (pl : List Int) (lo : List Bool) : (all (subL tAtN none' [] deep [.rop [.ro .obj l, .rom .str (.flat (.int .i64) [.int .i64]) (some g), .ro .i64 da, .ro (.flat (.int .i64) [.int .i64, .bool]) its, .ro (.flat (.int .i64) [.int .i64]) ow, .ro (.fmap (.int .i64) .i64) im, .ro .i64 pl, .ro .bool lo]] [lkV l g da its ow im pl lo])) = (
 l = l ∧ some g = some g ∧ da = da ∧ its = its ∧ ow = ow ∧ im = im ∧ pl = pl ∧ lo = lo) := by kernel_rfl
theorem runimage (rest : List (Nat × SVal)) (l : List Ob) (g : Glb) (da : List Int) (its : List itT.ty) (ow : List (Int × Int)) (im : List (Option Mp)) (pl : List Int) (lo : List Bool) : (Tr.sat (plainQ (.agg [.int .u32 (.full (imgM l g).entry), .ro .u32 (imgM l g).data, .ro .u32 (imgM l g).code, .ro .i64 (imgM l g).drefs, .ro .i64 (imgM l g).places, .ro .i64 (imgM l g).starts])) (run (env (G7 ++ rest) [(34, kkreal), (33, kaddress), (35, kksym), (36, kput)]) [(3, LimA l g), (18, LimB l g), (28, LimP l g)] (bodyOf Tryz.f23) (start [lkV l g da its ow im pl lo] 136) (ends (env (G7 ++ rest) [(34, kkreal), (33, kaddress), (35, kksym), (36, kput)]) Tryz.f23.results.toList))) = (
 RQ (LkV l g da its ow im pl lo ∧ Own l ((gGet (RT.dflt (RT.flat (FK.int IntKind.i64) [FK.int IntKind.i64])) (Option.getD (some g) (@List.nil (FK.ty FK.str × RT.ty spT))) (ByteArray.mk #[(109 : UInt8), (97 : UInt8), (105 : UInt8), (110 : UInt8)])).fst, (gGet (RT.dflt (RT.flat (FK.int IntKind.i64) [FK.int IntKind.i64])) (Option.getD (some g) (@List.nil (FK.ty FK.str × RT.ty spT))) (ByteArray.mk #[(109 : UInt8), (97 : UInt8), (105 : UInt8), (110 : UInt8)])).snd)) (RQ (LkOk l g ∧ l = l ∧ some g = some g ∧ da = oDa l (List.length l) ∧ its = itF l g ∧ ow = oOw l (List.length l) ∧ im = imL l ∧ pl = plF l g ∧ lo = loF l g ∧ l = l ∧ (↑(List.length l) : Int) = (↑(List.length l) : Int) ∧ (0 : Int) = (↑(0 : Nat) : Int) ∧ (0 : Int) = (0 : Int) ∧ adrL l g ((gGet (RT.dflt (RT.flat (FK.int IntKind.i64) [FK.int IntKind.i64])) (Option.getD (some g) (@List.nil (FK.ty FK.str × RT.ty spT))) (ByteArray.mk #[(109 : UInt8), (97 : UInt8), (105 : UInt8), (110 : UInt8)])).fst, (gGet (RT.dflt (RT.flat (FK.int IntKind.i64) [FK.int IntKind.i64])) (Option.getD (some g) (@List.nil (FK.ty FK.str × RT.ty spT))) (ByteArray.mk #[(109 : UInt8), (97 : UInt8), (105 : UInt8), (110 : UInt8)])).snd) = adrL l g (glG g mainT) ∧ (dtO l g (0 : Nat)).fst = @List.nil (RT.ty RT.u32) ∧ (dtO l g (0 : Nat)).snd = @List.nil (RT.ty RT.i64)) (RQ (0 ≤ (↑(List.length l) : Int) ∧ (↑(List.length l) : Int) ≤ (↑(List.length l) : Int) ∧ (↑(List.length l) : Int) ≤ 137438953472) (RQ (LkOk l g ∧ l = l ∧ some g = some g ∧ oDa l (List.length l) = oDa l (List.length l) ∧ itF l g = itF l g ∧ oOw l (List.length l) = oOw l (List.length l) ∧ imL l = imL l ∧ plF l g = plF l g ∧ loF l g = loF l g ∧ l = l ∧ (↑(List.length l) : Int) = (↑(List.length l) : Int) ∧ (0 : Int) = (↑(0 : Nat) : Int) ∧ (0 : Int) = (0 : Int) ∧ adrL l g (glG g mainT) = adrL l g (glG g mainT) ∧ (dtO l g (List.length l)).fst = (dtO l g (List.length l)).fst ∧ (dtO l g (List.length l)).snd = (dtO l g (List.length l)).snd ∧ List.replicate (Int.toNat (↑(List.length l) : Int)) (RT.dflt (RT.fmap (FK.int IntKind.i64) RT.rel)) = rsU l (0 : Nat)) (RQ (LkOk l g ∧ l = l ∧ some g = some g ∧ oDa l (List.length l) = oDa l (List.length l) ∧ itF l g = itF l g ∧ oOw l (List.length l) = oOw l (List.length l) ∧ imL l = imL l ∧ plF l g = plF l g ∧ loF l g = loF l g ∧ rsL l = rsL l ∧ (↑(List.length (itF l g)) : Int) = (↑(List.length (itF l g)) : Int) ∧ (0 : Int) = (↑(0 : Nat) : Int) ∧ (0 : Int) = (0 : Int) ∧ adrL l g (glG g mainT) = (ptN l g (0 : Nat)).entry ∧ (dtO l g (List.length l)).fst = (ptN l g (0 : Nat)).data ∧ (ptN l g (0 : Nat)).code = @List.nil (RT.ty RT.u32) ∧ (dtO l g (List.length l)).snd = (ptN l g (0 : Nat)).drefs ∧ (ptN l g (0 : Nat)).places = @List.nil (RT.ty RT.i64) ∧ (ptN l g (0 : Nat)).starts = @List.nil (RT.ty RT.i64)) ((ptN l g (List.length (itF l g))).entry = (imgM l g).entry ∧ (ptN l g (List.length (itF l g))).data = (imgM l g).data ∧ (ptN l g (List.length (itF l g))).code = (imgM l g).code ∧ (ptN l g (List.length (itF l g))).drefs = (imgM l g).drefs ∧ (ptN l g (List.length (itF l g))).places = (imgM l g).places ∧ (ptN l g (List.length (itF l g))).starts = (imgM l g).starts)))))) := by kernel_rfl
set_option maxHeartbeats 4000000 in
theorem cimage : Con ea has (G7 ++ rest) 23 kimage := by
 refine plain_mkB Tryz.func23 136 (con := [(34, kkreal), (33, kaddress), (35, kksym), (36, kput)]) ⟨ckreal, caddress, cksym, cput, trivial⟩ (fun hA hr hv => ?_) (by kernel_rfl) (by kernel_rfl) Tryz.ntmps23
 unfold kimage at hr; split at hr
 ·rename_i l g da its ow im pl lo
  have := ret_ok hr; subst this
  replace hv := hv _ rfl
  refine ⟨_, [(3, LimA l g), (18, LimB l g), (28, LimP l g)], rfl, rfl, .of (argimage l g da its ow im pl lo) (by simp), rfl, (fun W R ρ0 own0 hown => hl3 (by kernel_rfl) (by kernel_rfl) (limA l g hown) (by kernel_rfl) (limB l g hown) (by kernel_rfl) (limP l g hown)), .of (runimage rest l g da its ow im pl lo) ?_⟩
  delta RQ
  clear hr
  clear hA
  obtain ⟨V, hmn⟩ := hv
  have V' := V
  obtain ⟨K, rfl, rfl, rfl, rfl, rfl, rfl⟩ := V
  have hf := K.nm.few
  simp only [Int.toNat_natCast, eq_self, true_and, and_true]
  refine ⟨⟨V', (main_own K.nm hmn).2.1⟩, fun _ => ⟨⟨K, rfl, rfl, rfl, rfl⟩, fun _ => ⟨by omega, fun _ => ⟨⟨K, rfl, rfl⟩, fun _ => ⟨⟨K, rfl, rfl, rfl, rfl, rfl, rfl, rfl⟩, fun _ => ⟨rfl, rfl, rfl, rfl, rfl, rfl⟩⟩⟩⟩⟩⟩
 ·cases hr
abbrev kimageO := unO kimage
theorem cimageO : Con ea has (G7 ++ rest) 23 kimageO := unO_ok cimage
def klaid : List SVal → Nat → Acc ORes := fun a n => match a with | [.ro .obj l] => .ret ({ v := .tuple [.ropO (laidB l) [.ro .obj l, .rom .str spT (some (nmG l)), .ro .i64 (oDa l l.length), .ro itT (itF l (nmG l)), .ro spT (oOw l l.length), .ro imT (imL l), .ro .i64 (plLk l (nmG l)), .ro .bool (loL l (nmG l))], .err (laidE l)] }) | _ => .fail "laid"
theorem arglaid (l : List Ob) : (all (subL tAtN none' [] deep [.ro .obj l] [.ro .obj l])) = (
 l = l) := by kernel_rfl
theorem runlaid (rest : List (Nat × SVal)) (l : List Ob) : (Tr.sat (plainQ (.tuple [.ropO (laidB l) [.ro .obj l, .rom .str spT (some (nmG l)), .ro .i64 (oDa l l.length), .ro itT (itF l (nmG l)), .ro spT (oOw l l.length), .ro imT (imL l), .ro .i64 (plLk l (nmG l)), .ro .bool (loL l (nmG l))], .err (laidE l)])) (run (env (G7 ++ rest) [(31, knames), (32, klay)]) [] (bodyOf Tryz.f22) (start [.ro .obj l] 25) (ends (env (G7 ++ rest) [(31, knames), (32, klay)]) Tryz.f22.results.toList))) = (
 IT (decide ((16 : Int) < (↑(List.length l) : Int))) (laidB l = false ∧ FErr.bare (104 : Int) = laidE l) (RQ (List.length l ≤ 16) (IT (!!FErr.isErr (namesE l)) (laidB l = false ∧ namesE l = laidE l) (RQ (NmG l (nmG l)) (IT (!!FErr.isErr (layE l (nmG l))) (laidB l = false ∧ layE l (nmG l) = laidE l) (laidB l = true ∧ l = l ∧ some (nmG l) = some (nmG l) ∧ oDa l (List.length l) = oDa l (List.length l) ∧ itF l (nmG l) = itF l (nmG l) ∧ oOw l (List.length l) = oOw l (List.length l) ∧ imL l = imL l ∧ plLk l (nmG l) = plLk l (nmG l) ∧ loL l (nmG l) = loL l (nmG l) ∧ FErr.fine = laidE l)))))) := by kernel_rfl
set_option maxHeartbeats 4000000 in
theorem claid : Con ea has (G7 ++ rest) 22 klaid := by
 refine plain_mkB Tryz.func22 25 (con := [(31, knames), (32, klay)]) ⟨cnames, clay, trivial⟩ (fun hA hr hv => ?_) (by kernel_rfl) (by kernel_rfl) Tryz.ntmps22
 unfold klaid at hr; split at hr
 ·rename_i l
  have := ret_ok hr; subst this
  refine ⟨_, [], rfl, rfl, .of (arglaid l) (by simp), rfl, (fun W R ρ0 own0 hown => noSums (by kernel_rfl)), .of (runlaid rest l) ?_⟩
  delta RQ IT
  clear hr
  clear hA hv
  have hE : laidE l = _ := laidE.eq_1 l
  have hB : laidB l = !(laidE l).isErr := rfl
  simp only [eq_self, true_and, and_true]
  refine ⟨fun h => ?_, fun h => ⟨by have := of_decide_eq_false h; omega, fun _ => ⟨fun h2 => ?_, fun h2 => ?_⟩⟩⟩
  ·rw [if_pos (by have := of_decide_eq_true h; omega)] at hE
   rw [hB, hE]; exact ⟨rfl, rfl⟩
  ·rw [if_neg (by have := of_decide_eq_false h; omega)] at hE
   have h2 : (namesE l).isErr = true := by simpa using h2
   rw [if_pos h2] at hE
   rw [hB, hE, h2]; exact ⟨rfl, rfl⟩
  ·have h1 : l.length ≤ 16 := by have := of_decide_eq_false h; omega
   rw [if_neg (by omega)] at hE
   have h2 : (namesE l).isErr = false := by simpa using h2
   rw [if_neg (by rw [h2]; simp)] at hE
   have G := (names_ok h1 h2).1
   refine ⟨G, fun _ => ⟨fun h3 => ?_, fun h3 => ?_⟩⟩
   ·have h3 : (layE l (nmG l)).isErr = true := by simpa using h3
    rw [hB, hE, h3]; exact ⟨rfl, rfl⟩
   ·have h3 : (layE l (nmG l)).isErr = false := by simpa using h3
    rw [hB, hE, h3]; exact ⟨rfl, (fine_of h3).symm⟩
 ·cases hr
abbrev imgV (x : Img) : List SVal := [.int .u32 (.full x.entry), .ro .u32 x.data, .ro .u32 x.code, .ro .i64 x.drefs, .ro .i64 x.places, .ro .i64 x.starts]
def kLinkC : List SVal → Nat → Acc ORes := fun a n => match a with | [.ro .obj l] => .ret ({ v := .tuple [.agg (imgV (linkI l)), .err (laidE l)] }) | _ => .fail "LinkC"
theorem argLinkC (l : List Ob) : (all (subL tAtN none' [] deep [.ro .obj l] [.ro .obj l])) = (
 l = l) := by kernel_rfl
theorem runLinkC (rest : List (Nat × SVal)) (l : List Ob) : (Tr.sat (plainQ (.tuple [.agg (imgV (linkI l)), .err (laidE l)])) (run (env (G7 ++ rest) [(22, klaid), (23, kimageO)]) [] (bodyOf Tryz.f11) (start [.ro .obj l] 17) (ends (env (G7 ++ rest) [(22, klaid), (23, kimageO)]) Tryz.f11.results.toList))) = (
 IT (!!FErr.isErr (laidE l)) ((0 : Int) = (linkI l).entry ∧ (linkI l).data = @List.nil (RT.ty RT.u32) ∧ (linkI l).code = @List.nil (RT.ty RT.u32) ∧ (linkI l).drefs = @List.nil (RT.ty RT.i64) ∧ (linkI l).places = @List.nil (RT.ty RT.i64) ∧ (linkI l).starts = @List.nil (RT.ty RT.i64) ∧ laidE l = laidE l) (RQ (laidB l = true ∧ opP (some (LkV l (nmG l) (oDa l (List.length l)) (itF l (nmG l)) (oOw l (List.length l)) (imL l) (plLk l (nmG l)) (loL l (nmG l)) ∧ noMain l (nmG l) = false))) ((imgM l (nmG l)).entry = (linkI l).entry ∧ (imgM l (nmG l)).data = (linkI l).data ∧ (imgM l (nmG l)).code = (linkI l).code ∧ (imgM l (nmG l)).drefs = (linkI l).drefs ∧ (imgM l (nmG l)).places = (linkI l).places ∧ (imgM l (nmG l)).starts = (linkI l).starts ∧ FErr.fine = laidE l))) := by kernel_rfl
set_option maxHeartbeats 4000000 in
theorem cLinkC : Con ea has (G7 ++ rest) 11 kLinkC := by
 refine plain_mkB Tryz.func11 17 (con := [(22, klaid), (23, kimageO)]) ⟨claid, cimageO, trivial⟩ (fun hA hr hv => ?_) (by kernel_rfl) (by kernel_rfl) Tryz.ntmps11
 unfold kLinkC at hr; split at hr
 ·rename_i l
  have := ret_ok hr; subst this
  refine ⟨_, [], rfl, rfl, .of (argLinkC l) (by simp), rfl, (fun W R ρ0 own0 hown => noSums (by kernel_rfl)), .of (runLinkC rest l) ?_⟩
  delta RQ IT
  clear hr
  clear hA hv
  have hL : linkI l = _ := linkI.eq_1 l
  simp only [eq_self, true_and, and_true]
  refine ⟨fun h => ?_, fun h => ?_⟩
  ·have h : (laidE l).isErr = true := by simpa using h
   rw [if_pos h] at hL
   rw [hL]; exact ⟨rfl, rfl, rfl, rfl, rfl, rfl⟩
  ·have h : (laidE l).isErr = false := by simpa using h
   rw [if_neg (by rw [h]; simp)] at hL
   obtain ⟨K, _, hmn⟩ := laid_ok h
   rw [hL]
   exact ⟨⟨by unfold laidB; rw [h]; rfl, ⟨⟨K, rfl, rfl, rfl, rfl, K.pl, K.lo⟩, hmn⟩⟩, fun _ => ⟨rfl, rfl, rfl, rfl, rfl, rfl, (fine_of h).symm⟩⟩
 ·cases hr
end
end Go.Proofs.YtacmmedhjebfjaaGreatDoor
set_option linter.unusedVariables false
set_option linter.unusedSimpArgs false
set_option linter.unusedSectionVars false
namespace Go.Proofs.YtacmmedhjebfjaaGreatDoor
open Go.RowKit Go.Sy Go.Fac
section
variable {ea : Ear} {has : Int → Prop} {rest : List (Nat × SVal)} [ht : Nonempty (EType ea)]
end
end Go.Proofs.YtacmmedhjebfjaaGreatDoor
set_option linter.unusedVariables false
set_option linter.unusedSimpArgs false
namespace Go.Proofs.YtacmmedhjebfjaaGreatDoor
open Go.RowKit Go.Sy Go.Fac
theorem rlxN_br (its : List itT.ty) : ∀ k j, (rlxN its k).getD j false = true → itB its j = true
 | 0, j, h => by
  rw [rlxN, List.getD_eq_getElem?_getD, List.getElem?_replicate] at h
  split at h <;> cases h
 | k + 1, j, h => by
  by_cases hj : j < its.length
  ·rw [rlxN, rndU_at its _ (rlxN_len its k) j hj _ hj, Bool.or_eq_true] at h
   rcases h with h | h
   ·exact rlxN_br its k j h
   ·unfold goesL at h; simp only [Bool.and_eq_true] at h; exact h.1.1
  ·rw [getD_none _ _ (by rw [rlxN_len]; omega)] at h; cases h
theorem lo_br {l : List Ob} {g : Glb} {n : Nat} (h : (loF l g).getD n false = true) : itB (itF l g) n = true := rlxN_br _ _ _ h
theorem short_two {op : Int} (h : shortM op = true) : isaTwo op = false := by
 rcases short_op h with h | h | h <;> rw [h] <;> rfl
theorem ItAt.one {l : List Ob} {g : Glb} (G : NmG l g) {n o w : Nat} (I : ItAt l n o w) (hb : itB (itF l g) n = true) : itS (itF l g) n = 1 := by
 obtain ⟨k, _, _, _, _, _, _, k7, k8⟩ := I.br G hb
 rw [(I.words G).1]
 unfold szW twoB
 rw [k7, short_two k8]; rfl
theorem VOb.add {o : Ob} (v : VOb o) {j : Nat} (hj : j < o.crels.length) (ha : (o.crels.getD j RT.rel.dflt).add ≠ 0) : (o.syms.getD (o.crels.getD j RT.rel.dflt).sym.toNat RT.sym.dflt).in_ = 1 := by
 obtain ⟨_, _, _, _, c5, _, _, c8, _⟩ := v.crel hj _ rfl
 unfold shapeB at c8
 rcases c5 with h | h
 ·rw [if_neg (by omega)] at c8
  split at c8
  ·cases c8
  ·rename_i h1
   simp only [Bool.and_eq_true, Bool.not_eq_true', decide_eq_false_iff_not, not_and, Bool.not_eq_false] at h1
   simpa using h1 ha
 ·rw [if_pos h] at c8
  simp only [Bool.and_eq_true, decide_eq_true_eq] at c8
  exact absurd c8.2 ha
end Go.Proofs.YtacmmedhjebfjaaGreatDoor
set_option linter.unusedVariables false
set_option linter.unusedSimpArgs false
namespace Go.Proofs.YtacmmedhjebfjaaGreatDoor
open Go.RowKit Go.Sy Go.Fac
def NoData (l : List Ob) (g : Glb) : Prop := ∀ i, i < l.length → toO l g i = false
theorem NoData.at_ {l : List Ob} {g : Glb} (T : NoData l g) (G : NmG l g) {o k : Nat} (ho : o < l.length) (hk : k < (obN l o).crels.length) (hj : jumpsB (obN l o).code (obN l o).map (relN l o k).at_ (relN l o k).kind = true) :
  Own l (realM l g o (relN l o k).sym) ∧ (symAt l (realM l g o (relN l o k).sym).1 (realM l g o (relN l o k).sym).2).in_ = 2 := by
 have h := T o ho
 unfold toO at h
 rw [decide_eq_false_iff_not, Decidable.not_not] at h
 have h := idxM_all h k hk
 unfold toB at h
 rw [hj, Bool.true_and, decide_eq_false_iff_not] at h
 obtain ⟨_, _, c3, c4, _⟩ := (G.val o ho).crel hk _ rfl
 have O := G.own ho c3 c4
 refine ⟨O, ?_⟩
 obtain ⟨o', s', e, h1, h2, h3⟩ := O
 have e' : realM l g o (relN l o k).sym = ((o' : Int), (s' : Int)) := e
 rw [e'] at h ⊢
 simp only [symAt_nat] at h ⊢
 rcases Own.in12 G h1 h2 h3 with h4 | h4
 ·exact absurd h4 h
 ·exact h4
theorem VOb.first {o : Ob} (v : VOb o) {j : Nat} (hj : j < o.crels.length) {w : Nat} (hw : (o.crels.getD j RT.rel.dflt).at_ = w) (hm : o.map.getD w 0 = 1) : (o.crels.getD j RT.rel.dflt).kind = 2 := by
 obtain ⟨_, _, _, _, c5, _, _, c8, _⟩ := v.crel hj _ rfl
 rcases c5 with h | h
 ·unfold shapeB at c8
  rw [if_neg (by omega)] at c8
  split at c8
  ·cases c8
  ·rw [hw, Int.toNat_natCast, hm] at c8
   rw [if_neg (by decide)] at c8
   simp at c8
 ·exact h
end Go.Proofs.YtacmmedhjebfjaaGreatDoor
