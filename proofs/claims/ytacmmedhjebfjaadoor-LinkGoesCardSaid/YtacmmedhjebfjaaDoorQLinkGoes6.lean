/- Contracts that the proofs use. -/
import Derived.Test.YtacmmedhjebfjaaDoorQLinkGoes5
set_option linter.unusedVariables false
set_option linter.unusedSimpArgs false
set_option linter.unusedSectionVars false
namespace Go.Proofs.YtacmmedhjebfjaaDoor
open Go.RowKit Go.Sy Go.Fac
section
variable {ea : Ear} {has : Int → Prop} {rest : List (Nat × SVal)} [ht : Nonempty (EType ea)]
abbrev lkV (l : List Ob) (g : Glb) (da : List Int) (its : List itT.ty) (ow : List (Int × Int)) (im : List (Option Mp)) (pl : List Int) (lo : List Bool) : SVal := .rop [.ro .obj l, .rom .str spT (some g), .ro .i64 da, .ro itT its, .ro spT ow, .ro imT im, .ro .i64 pl, .ro .bool lo]
structure LkV (l : List Ob) (g : Glb) (da : List Int) (its : List itT.ty) (ow : List (Int × Int)) (im : List (Option Mp)) (pl : List Int) (lo : List Bool) : Prop where
  ok : LkOk l g
  da : da = oDa l l.length
  its : its = itF l g
  ow : ow = oOw l l.length
  im : im = imL l
  pl : pl = plF l g
  lo : lo = loF l g
def kaddress : List SVal → Nat → Acc ORes := fun a n => match a with | [.rop [.ro .obj l, .rom .str (.flat (.int .i64) [.int .i64]) (some g), .ro .i64 da, .ro (.flat (.int .i64) [.int .i64, .bool]) its, .ro (.flat (.int .i64) [.int .i64]) ow, .ro (.fmap (.int .i64) .i64) im, .ro .i64 pl, .ro .bool lo], .agg [.int .i64 o, .int .i64 s]] => .ret ({ v := .int .u32 (.full (adrL l g (o.val, s.val))), vc := some (LkV l g da its ow im pl lo ∧ Own l (o.val, s.val)) }) | _ => .fail "address"
theorem argaddress (l : List Ob) (g : Glb) (da : List Int) (its : List itT.ty) (ow : List (Int × Int)) (im : List (Option Mp)) (pl : List Int) (lo : List Bool) (o s : SI) : (all (subL tAtN none' [] deep [.rop [.ro .obj l, .rom .str (.flat (.int .i64) [.int .i64]) (some g), .ro .i64 da, .ro (.flat (.int .i64) [.int .i64, .bool]) its, .ro (.flat (.int .i64) [.int .i64]) ow, .ro (.fmap (.int .i64) .i64) im, .ro .i64 pl, .ro .bool lo], .agg [.int .i64 o, .int .i64 s]] [lkV l g da its ow im pl lo, .agg [.int .i64 (.full o.val), .int .i64 (.full s.val)]])) = (
  l = l ∧ some g = some g ∧ da = da ∧ its = its ∧ ow = ow ∧ im = im ∧ pl = pl ∧ lo = lo ∧ SI.val o = SI.val o ∧ SI.val s = SI.val s) := by kernel_rfl
theorem runaddress (rest : List (Nat × SVal)) (l : List Ob) (g : Glb) (da : List Int) (its : List itT.ty) (ow : List (Int × Int)) (im : List (Option Mp)) (pl : List Int) (lo : List Bool) (o : Int) (s : Int) : (Tr.sat (plainQ (.int .u32 (.full (adrL l g (o, s))))) (run (env (G7 ++ rest) [(42, kksym)]) [] (bodyOf Tryd.f38) (start [lkV l g da its ow im pl lo, .agg [.int .i64 (.full o), .int .i64 (.full s)]] 43) (ends (env (G7 ++ rest) [(42, kksym)]) Tryd.f38.results.toList))) = (
  RQ ((0 : Int) ≤ o ∧ o < (↑(List.length l) : Int) ∧ (0 : Int) ≤ s ∧ s < (↑(List.length (List.getD l (Int.toNat o) (RT.dflt RT.obj)).syms) : Int)) (IT (decide ((symAt l o s).in_ = (1 : Int))) (RQ ((0 : Int) ≤ o ∧ o < (↑(List.length da) : Int)) (IntKind.wrap IntKind.u32 (IntKind.wrap IntKind.i64 (List.getD da (Int.toNat o) (RT.dflt RT.i64) + (symAt l o s).value)) = adrL l g (o, s))) (RQ ((0 : Int) ≤ o ∧ o < (↑(List.length im) : Int)) (RQ ((0 : Int) ≤ gGet (RT.dflt RT.i64) (Option.getD (List.getD im (Int.toNat o) (RT.dflt (RT.fmap (FK.int IntKind.i64) RT.i64))) (@List.nil (FK.ty (FK.int IntKind.i64) × RT.ty RT.i64))) (symAt l o s).value ∧ gGet (RT.dflt RT.i64) (Option.getD (List.getD im (Int.toNat o) (RT.dflt (RT.fmap (FK.int IntKind.i64) RT.i64))) (@List.nil (FK.ty (FK.int IntKind.i64) × RT.ty RT.i64))) (symAt l o s).value < (↑(List.length pl) : Int)) (IntKind.wrap IntKind.u32 (IntKind.wrap IntKind.i64 ((2048 : Int) + List.getD pl (Int.toNat (gGet (RT.dflt RT.i64) (Option.getD (List.getD im (Int.toNat o) (RT.dflt (RT.fmap (FK.int IntKind.i64) RT.i64))) (@List.nil (FK.ty (FK.int IntKind.i64) × RT.ty RT.i64))) (symAt l o s).value)) (RT.dflt RT.i64))) = adrL l g (o, s)))))) := by kernel_rfl
set_option maxHeartbeats 4000000 in
theorem caddress : Con ea has (G7 ++ rest) 38 kaddress := by
  refine plain_mkB Tryd.func38 43 (con := [(42, kksym)]) ⟨cksym, trivial⟩ (fun hA hr hv => ?_) (by kernel_rfl) (by kernel_rfl) Tryd.ntmps38
  unfold kaddress at hr; split at hr
  · rename_i l g da its ow im pl lo o s
    have := ret_ok hr; subst this
    replace hv := hv _ rfl
    refine ⟨_, [], rfl, rfl, .of (argaddress l g da its ow im pl lo o s) (by simp), rfl, (fun W R ρ0 own0 hown => noSums (by kernel_rfl)), .of (runaddress rest l g da its ow im pl lo o.val s.val) ?_⟩
    delta RQ IT
    clear hr
    clear hA
    generalize o.val = o at *
    generalize s.val = s at *
    obtain ⟨⟨K, rfl, rfl, rfl, rfl, rfl, rfl⟩, O⟩ := hv
    have A := K.adr O
    obtain ⟨o', s', e, ho, hs, h3⟩ := O
    simp only [Prod.mk.injEq] at e
    obtain ⟨rfl, rfl⟩ := e
    have eA : adrL l g (((o' : Nat) : Int), ((s' : Nat) : Int)) = _ := adrL.eq_1 l g _
    simp only [Int.toNat_natCast, symAt_nat] at eA ⊢
    have hd : (oDa l l.length).length = l.length := oDa_len l _
    have hi : (imL l).length = l.length := oIm_len l _
    have hp : (plF l g).length = (itF l g).length + 1 := plL_len _ _ _
    refine ⟨⟨by omega, by omega, by omega, by show ((s' : Nat) : Int) < ((obN l o').syms.length : Nat); omega⟩, fun _ => ⟨fun h1 => ⟨by omega, fun _ => ?_⟩, fun h1 => ⟨by omega, fun _ => ?_⟩⟩⟩
    · have h1 := of_decide_eq_true h1
      rw [if_pos h1] at eA
      have e1 : (oDa l l.length).getD o' RT.i64.dflt = oDn l o' := oDa_get l _ _ _ ho
      rw [e1, IntKind.wrap_u32, IntKind.wrap_i64]; omega
    · have h1 := of_decide_eq_false h1
      rw [if_neg h1] at eA
      rcases Own.in12 K.nm ho hs h3 with h | h
      · exact absurd h h1
      · obtain ⟨g1, g2, g3, g4, g5⟩ := K.code ho hs h
        have e2 : (plF l g).getD (pix l o' (syO l o' s').value.toNat) RT.i64.dflt = plN l g (pix l o' (syO l o' s').value.toNat) := plL_get _ _ _ _ (by omega)
        refine ⟨?_, fun _ => ?_⟩
        · show 0 ≤ im1 (imL l) ((o' : Nat) : Int) (syO l o' s').value ∧ im1 (imL l) ((o' : Nat) : Int) (syO l o' s').value < _
          rw [g4, hp]; omega
        · show IntKind.u32.wrap (IntKind.i64.wrap (2048 + (plF l g).getD (im1 (imL l) ((o' : Nat) : Int) (syO l o' s').value).toNat RT.i64.dflt)) = _
          rw [g4, Int.toNat_natCast]
          rw [e2, IntKind.wrap_u32, IntKind.wrap_i64]; omega
  · cases hr
abbrev imHp (x : Img) : List (Nat × Cont) := [(0, .cells [.int .u32 (.full x.entry), .own 1, .own 2, .own 3, .own 4, .own 5]), (1, .recs .u32 x.data), (2, .recs .u32 x.code), (3, .recs .i64 x.drefs), (4, .recs .i64 x.places), (5, .recs .i64 x.starts)]
abbrev imHpO (x : Img) : List (Nat × Option Cont) := [(0, some (.cells [.int .u32 (.full x.entry), .own 1, .own 2, .own 3, .own 4, .own 5])), (1, some (.recs .u32 x.data)), (2, some (.recs .u32 x.code)), (3, some (.recs .i64 x.drefs)), (4, some (.recs .i64 x.places)), (5, some (.recs .i64 x.starts))]
def imFew (x : Img) : Prop := x.code.length ≤ 100000 ∧ x.places.length ≤ 100000 ∧ x.starts.length ≤ 100000
def klkword : List SVal → Nat → Acc ORes := fun a n => match a with
  | [.rop [.ro .obj l, .rom .str (.flat (.int .i64) [.int .i64]) (some g), .ro .i64 da, .ro (.flat (.int .i64) [.int .i64, .bool]) its, .ro (.flat (.int .i64) [.int .i64]) ow, .ro (.fmap (.int .i64) .i64) im, .ro .i64 pl, .ro .bool lo], .ptr q 0, .int .i64 o, .int .i64 a, .ro (.fmap (.int .i64) .rel) rs] => .look q fun cc => match cc with | some (.cells [.int .u32 en, .own d, .own c, .own z, .own p, .own s]) => (.look d fun cc => match cc with | some (.recs .u32 D) => (.look c fun cc => match cc with | some (.recs .u32 C) => (.look z fun cc => match cc with | some (.recs .i64 Z) => (.look p fun cc => match cc with | some (.recs .i64 P) => (.look s fun cc => match cc with | some (.recs .i64 S) => (match nodupB [q, d, c, z, p, s] with | true => .ret (genR [q] (gone [d, c, z, p, s]) n (.tuple []) ((imHp (wdM l g o.val a.val (⟨en.val, D, C, Z, P, S⟩ : Img)))) 5 (some (LkV l g da its ow im pl lo ∧ rs = rsL l ∧ imFew (⟨en.val, D, C, Z, P, S⟩ : Img) ∧ 0 ≤ o.val ∧ o.val < l.length ∧ 0 ≤ a.val ∧ a.val < (obN l o.val.toNat).code.length))) | false => .fail "lkword") | _ => .fail "lkword") | _ => .fail "lkword") | _ => .fail "lkword") | _ => .fail "lkword") | _ => .fail "lkword") | _ => .fail "lkword"
  | _ => .fail "lkword"
theorem fitlkword (rest : List (Nat × SVal)) (l : List Ob) (g : Glb) (da : List Int) (its : List itT.ty) (ow : List (Int × Int)) (im : List (Option Mp)) (pl : List Int) (lo : List Bool) (o a : SI) (rs : List (Option Rmp)) (en : SI) (D C Z P S : List Int) : (fits (envK (G7 ++ rest) [(41, kkreal), (38, kaddress), (42, kksym)] 1) (S1 [.rop [.ro .obj l, .rom .str (.flat (.int .i64) [.int .i64]) (some g), .ro .i64 da, .ro (.flat (.int .i64) [.int .i64, .bool]) its, .ro (.flat (.int .i64) [.int .i64]) ow, .ro (.fmap (.int .i64) .i64) im, .ro .i64 pl, .ro .bool lo], .ptr 0 0, .int .i64 o, .int .i64 a, .ro (.fmap (.int .i64) .rel) rs] (numC 0 [.cells [.int .u32 en, .own 1, .own 2, .own 3, .own 4, .own 5], .recs .u32 D, .recs .u32 C, .recs .i64 Z, .recs .i64 P, .recs .i64 S]) 6 81) (S1 [lkV l g da its ow im pl lo, .ptr 0 0, .int .i64 (.full o.val), .int .i64 (.full a.val), .ro rlT rs] (imHpO (⟨en.val, D, C, Z, P, S⟩ : Img)) 6 81)) = (
  l = l ∧ some g = some g ∧ da = da ∧ its = its ∧ ow = ow ∧ im = im ∧ pl = pl ∧ lo = lo ∧ SI.val o = SI.val o ∧ SI.val a = SI.val a ∧ rs = rs ∧ SI.val en = SI.val en ∧ D = D ∧ C = C ∧ Z = Z ∧ P = P ∧ S = S) := by kernel_rfl
abbrev Tlkword (rest : List (Nat × SVal)) (l : List Ob) (g : Glb) (da : List Int) (its : List itT.ty) (ow : List (Int × Int)) (im : List (Option Mp)) (pl : List Int) (lo : List Bool) (o a : Int) (rs : List (Option Rmp)) (x : Img) : Prop := Tr.sat (newQ (envK (G7 ++ rest) [(41, kkreal), (38, kaddress), (42, kksym)] 1) (.tuple []) ((imHp (wdM l g o a x))) (1 + 5)) (run (envK (G7 ++ rest) [(41, kkreal), (38, kaddress), (42, kksym)] 1) [] (bodyOf Tryd.f57) (S1 [lkV l g da its ow im pl lo, .ptr 0 0, .int .i64 (.full o), .int .i64 (.full a), .ro rlT rs] (imHpO x) 6 81) (ends (envK (G7 ++ rest) [(41, kkreal), (38, kaddress), (42, kksym)] 1) Tryd.f57.results.toList))
theorem runlkword (rest : List (Nat × SVal)) (l : List Ob) (g : Glb) (da : List Int) (its : List itT.ty) (ow : List (Int × Int)) (im : List (Option Mp)) (pl : List Int) (lo : List Bool) (o a : Int) (rs : List (Option Rmp)) (x : Img) : (Tlkword rest l g da its ow im pl lo o a rs x) = (
  RQ ((0 : Int) ≤ o ∧ o < (↑(List.length l) : Int)) (RQ ((0 : Int) ≤ a ∧ a < (↑(List.length (List.getD l (Int.toNat o) (RT.dflt RT.obj)).code) : Int)) (RQ ((0 : Int) ≤ o ∧ o < (↑(List.length rs) : Int)) (IT (gHas (Option.getD (List.getD rs (Int.toNat o) (RT.dflt (RT.fmap (FK.int IntKind.i64) RT.rel))) (@List.nil (FK.ty (FK.int IntKind.i64) × RT.ty RT.rel))) a && decide ((gGet (RT.dflt RT.rel) (Option.getD (List.getD rs (Int.toNat o) (RT.dflt (RT.fmap (FK.int IntKind.i64) RT.rel))) (@List.nil (FK.ty (FK.int IntKind.i64) × RT.ty RT.rel))) a).kind = (1 : Int))) (RQ ((0 : Int) ≤ o ∧ o < (↑(List.length l) : Int) ∧ (0 : Int) ≤ (gGet (RT.dflt RT.rel) (Option.getD (List.getD rs (Int.toNat o) (RT.dflt (RT.fmap (FK.int IntKind.i64) RT.rel))) (@List.nil (FK.ty (FK.int IntKind.i64) × RT.ty RT.rel))) a).sym ∧ (gGet (RT.dflt RT.rel) (Option.getD (List.getD rs (Int.toNat o) (RT.dflt (RT.fmap (FK.int IntKind.i64) RT.rel))) (@List.nil (FK.ty (FK.int IntKind.i64) × RT.ty RT.rel))) a).sym < (↑(List.length (List.getD l (Int.toNat o) (RT.dflt RT.obj)).syms) : Int)) (RQ (LkV l g da its ow im pl lo ∧ Own l ((realM l g o (gGet (RT.dflt RT.rel) (Option.getD (List.getD rs (Int.toNat o) (RT.dflt (RT.fmap (FK.int IntKind.i64) RT.rel))) (@List.nil (FK.ty (FK.int IntKind.i64) × RT.ty RT.rel))) a).sym).fst, (realM l g o (gGet (RT.dflt RT.rel) (Option.getD (List.getD rs (Int.toNat o) (RT.dflt (RT.fmap (FK.int IntKind.i64) RT.rel))) (@List.nil (FK.ty (FK.int IntKind.i64) × RT.ty RT.rel))) a).sym).snd)) (RQ ((0 : Int) ≤ (realM l g o (gGet (RT.dflt RT.rel) (Option.getD (List.getD rs (Int.toNat o) (RT.dflt (RT.fmap (FK.int IntKind.i64) RT.rel))) (@List.nil (FK.ty (FK.int IntKind.i64) × RT.ty RT.rel))) a).sym).fst ∧ (realM l g o (gGet (RT.dflt RT.rel) (Option.getD (List.getD rs (Int.toNat o) (RT.dflt (RT.fmap (FK.int IntKind.i64) RT.rel))) (@List.nil (FK.ty (FK.int IntKind.i64) × RT.ty RT.rel))) a).sym).fst < (↑(List.length l) : Int) ∧ (0 : Int) ≤ (realM l g o (gGet (RT.dflt RT.rel) (Option.getD (List.getD rs (Int.toNat o) (RT.dflt (RT.fmap (FK.int IntKind.i64) RT.rel))) (@List.nil (FK.ty (FK.int IntKind.i64) × RT.ty RT.rel))) a).sym).snd ∧ (realM l g o (gGet (RT.dflt RT.rel) (Option.getD (List.getD rs (Int.toNat o) (RT.dflt (RT.fmap (FK.int IntKind.i64) RT.rel))) (@List.nil (FK.ty (FK.int IntKind.i64) × RT.ty RT.rel))) a).sym).snd < (↑(List.length (List.getD l (Int.toNat (realM l g o (gGet (RT.dflt RT.rel) (Option.getD (List.getD rs (Int.toNat o) (RT.dflt (RT.fmap (FK.int IntKind.i64) RT.rel))) (@List.nil (FK.ty (FK.int IntKind.i64) × RT.ty RT.rel))) a).sym).fst) (RT.dflt RT.obj)).syms) : Int)) (IT (decide ((symAt l (realM l g o (gGet (RT.dflt RT.rel) (Option.getD (List.getD rs (Int.toNat o) (RT.dflt (RT.fmap (FK.int IntKind.i64) RT.rel))) (@List.nil (FK.ty (FK.int IntKind.i64) × RT.ty RT.rel))) a).sym).fst (realM l g o (gGet (RT.dflt RT.rel) (Option.getD (List.getD rs (Int.toNat o) (RT.dflt (RT.fmap (FK.int IntKind.i64) RT.rel))) (@List.nil (FK.ty (FK.int IntKind.i64) × RT.ty RT.rel))) a).sym).snd).in_ = (2 : Int))) (RQ (List.length x.places + List.length [(↑(List.length x.code) : Int)] ≤ (137438953472 : Nat)) (RQ (List.length x.code + List.length [IntKind.wrap IntKind.u32 (adrL l g ((realM l g o (gGet (RT.dflt RT.rel) (Option.getD (List.getD rs (Int.toNat o) (RT.dflt (RT.fmap (FK.int IntKind.i64) RT.rel))) (@List.nil (FK.ty (FK.int IntKind.i64) × RT.ty RT.rel))) a).sym).fst, (realM l g o (gGet (RT.dflt RT.rel) (Option.getD (List.getD rs (Int.toNat o) (RT.dflt (RT.fmap (FK.int IntKind.i64) RT.rel))) (@List.nil (FK.ty (FK.int IntKind.i64) × RT.ty RT.rel))) a).sym).snd) + IntKind.wrap IntKind.u32 (gGet (RT.dflt RT.rel) (Option.getD (List.getD rs (Int.toNat o) (RT.dflt (RT.fmap (FK.int IntKind.i64) RT.rel))) (@List.nil (FK.ty (FK.int IntKind.i64) × RT.ty RT.rel))) a).add)] ≤ (137438953472 : Nat)) (x.entry = (wdM l g o a x).entry ∧ x.data = (wdM l g o a x).data ∧ x.code ++ [IntKind.wrap IntKind.u32 (adrL l g ((realM l g o (gGet (RT.dflt RT.rel) (Option.getD (List.getD rs (Int.toNat o) (RT.dflt (RT.fmap (FK.int IntKind.i64) RT.rel))) (@List.nil (FK.ty (FK.int IntKind.i64) × RT.ty RT.rel))) a).sym).fst, (realM l g o (gGet (RT.dflt RT.rel) (Option.getD (List.getD rs (Int.toNat o) (RT.dflt (RT.fmap (FK.int IntKind.i64) RT.rel))) (@List.nil (FK.ty (FK.int IntKind.i64) × RT.ty RT.rel))) a).sym).snd) + IntKind.wrap IntKind.u32 (gGet (RT.dflt RT.rel) (Option.getD (List.getD rs (Int.toNat o) (RT.dflt (RT.fmap (FK.int IntKind.i64) RT.rel))) (@List.nil (FK.ty (FK.int IntKind.i64) × RT.ty RT.rel))) a).add)] = (wdM l g o a x).code ∧ x.drefs = (wdM l g o a x).drefs ∧ x.places ++ [(↑(List.length x.code) : Int)] = (wdM l g o a x).places ∧ x.starts = (wdM l g o a x).starts))) (RQ (List.length x.code + List.length [IntKind.wrap IntKind.u32 (adrL l g ((realM l g o (gGet (RT.dflt RT.rel) (Option.getD (List.getD rs (Int.toNat o) (RT.dflt (RT.fmap (FK.int IntKind.i64) RT.rel))) (@List.nil (FK.ty (FK.int IntKind.i64) × RT.ty RT.rel))) a).sym).fst, (realM l g o (gGet (RT.dflt RT.rel) (Option.getD (List.getD rs (Int.toNat o) (RT.dflt (RT.fmap (FK.int IntKind.i64) RT.rel))) (@List.nil (FK.ty (FK.int IntKind.i64) × RT.ty RT.rel))) a).sym).snd) + IntKind.wrap IntKind.u32 (gGet (RT.dflt RT.rel) (Option.getD (List.getD rs (Int.toNat o) (RT.dflt (RT.fmap (FK.int IntKind.i64) RT.rel))) (@List.nil (FK.ty (FK.int IntKind.i64) × RT.ty RT.rel))) a).add)] ≤ (137438953472 : Nat)) (x.entry = (wdM l g o a x).entry ∧ x.data = (wdM l g o a x).data ∧ x.code ++ [IntKind.wrap IntKind.u32 (adrL l g ((realM l g o (gGet (RT.dflt RT.rel) (Option.getD (List.getD rs (Int.toNat o) (RT.dflt (RT.fmap (FK.int IntKind.i64) RT.rel))) (@List.nil (FK.ty (FK.int IntKind.i64) × RT.ty RT.rel))) a).sym).fst, (realM l g o (gGet (RT.dflt RT.rel) (Option.getD (List.getD rs (Int.toNat o) (RT.dflt (RT.fmap (FK.int IntKind.i64) RT.rel))) (@List.nil (FK.ty (FK.int IntKind.i64) × RT.ty RT.rel))) a).sym).snd) + IntKind.wrap IntKind.u32 (gGet (RT.dflt RT.rel) (Option.getD (List.getD rs (Int.toNat o) (RT.dflt (RT.fmap (FK.int IntKind.i64) RT.rel))) (@List.nil (FK.ty (FK.int IntKind.i64) × RT.ty RT.rel))) a).add)] = (wdM l g o a x).code ∧ x.drefs = (wdM l g o a x).drefs ∧ x.places = (wdM l g o a x).places ∧ x.starts = (wdM l g o a x).starts)))))) (RQ (List.length x.code + List.length [List.getD (List.getD l (Int.toNat o) (RT.dflt RT.obj)).code (Int.toNat a) (RT.dflt RT.u32)] ≤ (137438953472 : Nat)) (x.entry = (wdM l g o a x).entry ∧ x.data = (wdM l g o a x).data ∧ x.code ++ [List.getD (List.getD l (Int.toNat o) (RT.dflt RT.obj)).code (Int.toNat a) (RT.dflt RT.u32)] = (wdM l g o a x).code ∧ x.drefs = (wdM l g o a x).drefs ∧ x.places = (wdM l g o a x).places ∧ x.starts = (wdM l g o a x).starts)))))) := by kernel_rfl
set_option maxHeartbeats 4000000 in
theorem glkword (l : List Ob) (g : Glb) (da : List Int) (its : List itT.ty) (ow : List (Int × Int)) (im : List (Option Mp)) (pl : List Int) (lo : List Bool) (o a : Int) (rs : List (Option Rmp)) (x : Img) (hv : LkV l g da its ow im pl lo ∧ rs = rsL l ∧ imFew x ∧ 0 ≤ o ∧ o < l.length ∧ 0 ≤ a ∧ a < (obN l o.toNat).code.length) : Box (Tlkword rest l g da its ow im pl lo o a rs x) := by
  refine .of (runlkword rest l g da its ow im pl lo o a rs x) ?_
  delta RQ IT
  obtain ⟨⟨K, rfl, rfl, rfl, rfl, rfl, rfl⟩, rfl, ⟨f1, f2, f3⟩, o1, o2, a1, a2⟩ := id hv
  have V := hv.1
  have hM : wdM l g o a x = _ := wdM.eq_1 l g o a x
  obtain ⟨o', rfl⟩ : ∃ n : Nat, o = n := ⟨o.toNat, (Int.toNat_of_nonneg o1).symm⟩
  have ho : o' < l.length := by omega
  have hrs : (rsL l).length = l.length := rsU_len l _
  have hb : (a : Int) < ((obN l ((o' : Nat) : Int).toNat).code.length : Nat) := a2
  refine ⟨⟨o1, o2⟩, fun _ => ⟨⟨a1, hb⟩, fun _ => ⟨by rw [hrs]; exact ⟨o1, o2⟩, fun _ => ⟨fun g1 => ?_, fun g1 => ?_⟩⟩⟩⟩
  · have g1 : wdR l o' a = true := g1
    have hR := g1
    unfold wdR at hR
    rw [Bool.and_eq_true] at hR
    obtain ⟨k, k1, k2, k3⟩ := rH_is ho hR.1
    obtain ⟨c1, c2, c3, c4, _⟩ := (K.nm.val o' ho).crel k1 _ rfl
    have c3' : 0 ≤ (rG l o' a).sym := by rw [k3]; exact c3
    have c4' : (rG l o' a).sym < (obN l o').syms.length := by rw [k3]; exact c4
    have O := K.nm.own ho c3' c4'
    have hV : wdV l g o' a = u32W (adrL l g (wdTo l g o' a) + u32W (rG l o' a).add) := by unfold wdV; rw [if_pos g1]
    have hb2 : 0 ≤ (wdTo l g o' a).1 ∧ (wdTo l g o' a).1 < l.length ∧ 0 ≤ (wdTo l g o' a).2 ∧ (wdTo l g o' a).2 < ((obN l (wdTo l g o' a).1.toNat).syms.length : Nat) := by
      obtain ⟨p, q, e, h1, h2, _⟩ := O
      unfold wdTo; rw [e]
      simp only [Int.toNat_natCast]; omega
    refine ⟨⟨o1, o2, c3', c4'⟩, fun _ => ⟨⟨V, O⟩, fun _ => ⟨hb2, fun _ => ⟨fun g2 => ?_, fun g2 => ?_⟩⟩⟩⟩
    · have hC : wdC l g o' a = true := by unfold wdC; rw [g1]; exact g2
      rw [hM, hC, hV]
      refine ⟨by simp only [List.length_singleton]; omega, fun _ => ⟨by simp only [List.length_singleton]; omega, fun _ => ⟨rfl, rfl, rfl, rfl, rfl, rfl⟩⟩⟩
    · have hC : wdC l g o' a = false := by unfold wdC; rw [g1]; exact g2
      rw [hM, hC, hV]
      exact ⟨by simp only [List.length_singleton]; omega, fun _ => ⟨rfl, rfl, rfl, rfl, rfl, rfl⟩⟩
  · have g1 : wdR l o' a = false := g1
    have hV : wdV l g o' a = (obN l o').code.getD a.toNat 0 := by unfold wdV; rw [if_neg (by rw [g1]; simp)]; rfl
    have hC : wdC l g o' a = false := by unfold wdC; rw [g1]; rfl
    rw [hM, hC, hV]
    exact ⟨by simp only [List.length_singleton]; omega, fun _ => ⟨rfl, rfl, rfl, rfl, rfl, rfl⟩⟩
set_option maxHeartbeats 4000000 in
theorem clkword : Con ea has (G7 ++ rest) 57 klkword := by
  refine gen_mk Tryd.func57 81 1 (con := [(41, kkreal), (38, kaddress), (42, kksym)]) ⟨ckreal, caddress, cksym, trivial⟩ (fun hA hr hv => ?_) (by kernel_rfl) (by kernel_rfl) Tryd.ntmps57
  unfold klkword at hr; split at hr
  · rename_i l g da its ow im pl lo q o a rs
    simp only [Acc.run] at hr
    split at hr
    · rename_i en d c z p s hq
      simp only [Acc.run] at hr
      split at hr
      · rename_i D hd
        simp only [Acc.run] at hr
        split at hr
        · rename_i C hc
          simp only [Acc.run] at hr
          split at hr
          · rename_i Z hz
            simp only [Acc.run] at hr
            split at hr
            · rename_i P hp
              simp only [Acc.run] at hr
              split at hr
              · rename_i S hs
                split at hr
                · rename_i hnd
                  have := ret_ok hr; subst this
                  refine ⟨[q], [d, c, z, p, s], [.cells [.int .u32 en, .own 1, .own 2, .own 3, .own 4, .own 5], .recs .u32 D, .recs .u32 C, .recs .i64 Z, .recs .i64 P, .recs .i64 S], [.rop [.ro .obj l, .rom .str (.flat (.int .i64) [.int .i64]) (some g), .ro .i64 da, .ro (.flat (.int .i64) [.int .i64, .bool]) its, .ro (.flat (.int .i64) [.int .i64]) ow, .ro (.fmap (.int .i64) .i64) im, .ro .i64 pl, .ro .bool lo], .ptr 0 0, .int .i64 o, .int .i64 a, .ro (.fmap (.int .i64) .rel) rs], (S1 [lkV l g da its ow im pl lo, .ptr 0 0, .int .i64 (.full o.val), .int .i64 (.full a.val), .ro rlT rs] (imHpO (⟨en.val, D, C, Z, P, S⟩ : Img)) 6 81), [], .tuple [], (imHp (wdM l g o.val a.val (⟨en.val, D, C, Z, P, S⟩ : Img))), 5, rfl, rfl, ⟨rfl, rfl, rfl⟩, hnd, ⟨hq, hd, hc, hz, hp, hs, trivial⟩, rfl, rfl, .of (fitlkword rest l g da its ow im pl lo o a rs en D C Z P S) (by simp [nilR]), rfl, (fun W R ρ0 own0 hown => noSums (by kernel_rfl)), glkword l g da its ow im pl lo o.val a.val rs ⟨en.val, D, C, Z, P, S⟩ (hv _ rfl)⟩
                · cases hr
              · cases hr
            · cases hr
          · cases hr
        · cases hr
      · cases hr
    · cases hr
  · cases hr
def HptW (l : List Ob) (g : Glb) (da : List Int) (its : List itT.ty) (ow : List (Int × Int)) (im : List (Option Mp)) (pl : List Int) (lo : List Bool) (rs : List (Option Rmp)) (n : Nat) (x : Img) (i : Nat) : SState := { fr := [(0, lkV l g da its ow im pl lo), (1, .ptr 0 0), (2, .ro rlT rs), (8, .rop [.int .i64 (.full (itO l n).1), .int .i64 (.full (itO l n).2)]), (70, .int .i64 (.full (itS (itF l g) n))), (71, .int .i64 (.sym i 0 1000000))], hp := imHpO (wdN l g (itO l n).1 (itO l n).2 x i), next := 6, sz := 194 }
def XptW (l : List Ob) (g : Glb) (da : List Int) (its : List itT.ty) (ow : List (Int × Int)) (im : List (Option Mp)) (pl : List Int) (lo : List Bool) (rs : List (Option Rmp)) (n : Nat) (x : Img) : SState := { fr := [], hp := imHpO (wdN l g (itO l n).1 (itO l n).2 x (itS (itF l g) n).toNat), next := 6, sz := 194 }
def LptW (l : List Ob) (g : Glb) (da : List Int) (its : List itT.ty) (ow : List (Int × Int)) (im : List (Option Mp)) (pl : List Int) (lo : List Bool) (rs : List (Option Rmp)) (n : Nat) (x : Img) : LSum := ⟨HptW l g da its ow im pl lo rs n x 0, fun k => k (.exit 0) (XptW l g da its ow im pl lo rs n x), LkV l g da its ow im pl lo ∧ rs = rsL l ∧ x.code.length ≤ 10000 ∧ x.places.length ≤ 10000 ∧ x.starts.length ≤ 10000 ∧ n < its.length⟩
theorem bptW (rest : List (Nat × SVal)) (l : List Ob) (g : Glb) (da : List Int) (its : List itT.ty) (ow : List (Int × Int)) (im : List (Option Mp)) (pl : List Int) (lo : List Bool) (rs : List (Option Rmp)) (n : Nat) (x : Img) (i : Nat) : (Tr.sat (rnd1 (envK (G7 ++ rest) [(52, kInstr), (58, kWord), (41, kkreal), (38, kaddress), (57, klkword)] 1) (fun _ => True) ((itS (itF l g) n).toNat) (HptW l g da its ow im pl lo rs n x) 0 (XptW l g da its ow im pl lo rs n x) i) (run (envK (G7 ++ rest) [(52, kInstr), (58, kWord), (41, kkreal), (38, kaddress), (57, klkword)] 1) [] (loopN (bodyOf Tryd.f43) 0) (HptW l g da its ow im pl lo rs n x i) .leaf)) = (
  IT (decide ((↑i : Int) < itS (itF l g) n)) (RQ (LkV l g da its ow im pl lo ∧ rs = rsL l ∧ imFew (wdN l g (itO l n).fst (itO l n).snd x i) ∧ (0 : Int) ≤ (itO l n).fst ∧ (itO l n).fst < (↑(List.length l) : Int) ∧ (0 : Int) ≤ IntKind.wrap IntKind.i64 ((itO l n).snd + (↑i : Int)) ∧ IntKind.wrap IntKind.i64 ((itO l n).snd + (↑i : Int)) < (↑(List.length (obN l (Int.toNat (itO l n).fst)).code) : Int)) (i < Int.toNat (itS (itF l g) n) ∧ True ∧ l = l ∧ some g = some g ∧ da = da ∧ its = its ∧ ow = ow ∧ im = im ∧ pl = pl ∧ lo = lo ∧ rs = rs ∧ (itO l n).fst = (itO l n).fst ∧ (itO l n).snd = (itO l n).snd ∧ itS (itF l g) n = itS (itF l g) n ∧ (↑i : Int) + (1 : Int) = (↑(i + (1 : Nat)) : Int) ∧ ((0 : Int) ≤ (↑(i + (1 : Nat)) : Int) ∧ (↑(i + (1 : Nat)) : Int) ≤ (1000000 : Int)) ∧ (wdM l g (itO l n).fst (IntKind.wrap IntKind.i64 ((itO l n).snd + (↑i : Int))) (wdN l g (itO l n).fst (itO l n).snd x i)).entry = (wdN l g (itO l n).fst (itO l n).snd x (i + (1 : Nat))).entry ∧ (wdM l g (itO l n).fst (IntKind.wrap IntKind.i64 ((itO l n).snd + (↑i : Int))) (wdN l g (itO l n).fst (itO l n).snd x i)).data = (wdN l g (itO l n).fst (itO l n).snd x (i + (1 : Nat))).data ∧ (wdM l g (itO l n).fst (IntKind.wrap IntKind.i64 ((itO l n).snd + (↑i : Int))) (wdN l g (itO l n).fst (itO l n).snd x i)).code = (wdN l g (itO l n).fst (itO l n).snd x (i + (1 : Nat))).code ∧ (wdM l g (itO l n).fst (IntKind.wrap IntKind.i64 ((itO l n).snd + (↑i : Int))) (wdN l g (itO l n).fst (itO l n).snd x i)).drefs = (wdN l g (itO l n).fst (itO l n).snd x (i + (1 : Nat))).drefs ∧ (wdM l g (itO l n).fst (IntKind.wrap IntKind.i64 ((itO l n).snd + (↑i : Int))) (wdN l g (itO l n).fst (itO l n).snd x i)).places = (wdN l g (itO l n).fst (itO l n).snd x (i + (1 : Nat))).places ∧ (wdM l g (itO l n).fst (IntKind.wrap IntKind.i64 ((itO l n).snd + (↑i : Int))) (wdN l g (itO l n).fst (itO l n).snd x i)).starts = (wdN l g (itO l n).fst (itO l n).snd x (i + (1 : Nat))).starts)) (Nat.beq (0 : Nat) (0 : Nat) = true ∧ (wdN l g (itO l n).fst (itO l n).snd x i).entry = (wdN l g (itO l n).fst (itO l n).snd x (Int.toNat (itS (itF l g) n))).entry ∧ (wdN l g (itO l n).fst (itO l n).snd x i).data = (wdN l g (itO l n).fst (itO l n).snd x (Int.toNat (itS (itF l g) n))).data ∧ (wdN l g (itO l n).fst (itO l n).snd x i).code = (wdN l g (itO l n).fst (itO l n).snd x (Int.toNat (itS (itF l g) n))).code ∧ (wdN l g (itO l n).fst (itO l n).snd x i).drefs = (wdN l g (itO l n).fst (itO l n).snd x (Int.toNat (itS (itF l g) n))).drefs ∧ (wdN l g (itO l n).fst (itO l n).snd x i).places = (wdN l g (itO l n).fst (itO l n).snd x (Int.toNat (itS (itF l g) n))).places ∧ (wdN l g (itO l n).fst (itO l n).snd x i).starts = (wdN l g (itO l n).fst (itO l n).snd x (Int.toNat (itS (itF l g) n))).starts)) := by kernel_rfl
set_option maxHeartbeats 4000000 in
theorem lptW (l : List Ob) (g : Glb) (da : List Int) (its : List itT.ty) (ow : List (Int × Int)) (im : List (Option Mp)) (pl : List Int) (lo : List Bool) (rs : List (Option Rmp)) (n : Nat) (x : Img) {W : World} {R own0 : Nat → Prop} {ρ0 : Nat → Option Value} (hown : HownOk (envK (G7 ++ rest) [(52, kInstr), (58, kWord), (41, kkreal), (38, kaddress), (57, klkword)] 1) own0 ρ0) : LOk Tryd.prog (envK (G7 ++ rest) [(52, kInstr), (58, kWord), (41, kkreal), (38, kaddress), (57, klkword)] 1) (ctx ea has) (G7 ++ rest) W R own0 ρ0 (loopN (bodyOf Tryd.f43) 0) (LptW l g da its ow im pl lo rs n x) := by
  refine loop1_ok (J := fun _ => True) (N := (itS (itF l g) n).toNat) (H := HptW l g da its ow im pl lo rs n x) (X := XptW l g da its ow im pl lo rs n x) (envK_ok (con := [(52, kInstr), (58, kWord), (41, kkreal), (38, kaddress), (57, klkword)]) ⟨cInstr, cWord, ckreal, caddress, clkword, trivial⟩) hown (ls := fun i => []) (fun i => noSums (by kernel_rfl)) (fun hm i hi hj => ?_) 0 (fun hm => by first | exact Nat.zero_le _ | omega) (fun hm => trivial)
  rw [bptW rest l g da its ow im pl lo rs n x i]
  delta RQ IT
  obtain ⟨V, hrs, f1, f2, f3, hn⟩ := hm
  have K := V.ok
  have hlen : its.length = oBs l l.length := by rw [V.its]; exact K.bs.2.1
  obtain ⟨o, w, I⟩ := itAt (l := l) (show n < oBs l l.length by omega)
  obtain ⟨z1, z2⟩ := I.words K.nm
  have z3 := itF_size0 l g n
  obtain ⟨w1, w2, w3, w4, w5, w6⟩ := wdN_len l g (itO l n).1 (itO l n).2 x i
  have hN : wdN l g (itO l n).1 (itO l n).2 x (i + 1) = wdM l g (itO l n).1 ((itO l n).2 + i) (wdN l g (itO l n).1 (itO l n).2 x i) := rfl
  have hc := (K.nm.val o I.ho).code
  have ho := I.ho
  have hI1 : (itO l n).1 = o := by rw [I.own]
  have hI2 : (itO l n).2 = w := by rw [I.own]
  rw [hN]
  rw [hI1, hI2] at w1 w2 w3 ⊢
  refine ⟨fun h => ?_, fun h => ?_⟩
  · have h := of_decide_eq_true h
    have ww : IntKind.i64.wrap ((w : Int) + i) = (w : Int) + i := by rw [IntKind.wrap_i64]; omega
    have e0 : (obN l ((o : Nat) : Int).toNat) = obN l o := by rw [Int.toNat_natCast]
    simp only [ww, eq_self, true_and, and_true]
    refine ⟨⟨V, hrs, ⟨by omega, by omega, by rw [w3]; omega⟩, by omega, by omega, by omega, by rw [e0]; omega⟩, fun _ => ⟨by omega, by omega, by omega⟩⟩
  · have h := of_decide_eq_false h
    have : i = (itS (itF l g) n).toNat := by omega
    subst this
    exact ⟨rfl, rfl, rfl, rfl, rfl, rfl, rfl⟩
def ptO (l : List Ob) (n : Nat) : Ob := obN l (itO l n).1.toNat
def ptCut (l : List Ob) (g : Glb) (da : List Int) (its : List itT.ty) (ow : List (Int × Int)) (im : List (Option Mp)) (pl : List Int) (lo : List Bool) (rs : List (Option Rmp)) (j : Int) (x : Img) : LSum := cutL { fr := [(0, lkV l g da its ow im pl lo), (1, .ptr 0 0), (2, .ro rlT rs), (3, .int .i64 (.full j)), (8, .rop [.int .i64 (.full (itO l j.toNat).1), .int .i64 (.full (itO l j.toNat).2)]), (9, .rop [.ro .u32 (ptO l j.toNat).data, .ro .u32 (ptO l j.toNat).code, .ro .u8 (ptO l j.toNat).map, .ro .rel (ptO l j.toNat).drels, .ro .rel (ptO l j.toNat).crels, .ro .sym (ptO l j.toNat).syms])], hp := imHpO (ptS l j.toNat x), next := 6, sz := 194 }
def kput : List SVal → Nat → Acc ORes := fun a n => match a with
  | [.rop [.ro .obj l, .rom .str (.flat (.int .i64) [.int .i64]) (some g), .ro .i64 da, .ro (.flat (.int .i64) [.int .i64, .bool]) its, .ro (.flat (.int .i64) [.int .i64]) ow, .ro (.fmap (.int .i64) .i64) im, .ro .i64 pl, .ro .bool lo], .ptr q 0, .ro (.fmap (.int .i64) .rel) rs, .int .i64 j] => .look q fun cc => match cc with | some (.cells [.int .u32 en, .own d, .own c, .own z, .own p, .own s]) => (.look d fun cc => match cc with | some (.recs .u32 D) => (.look c fun cc => match cc with | some (.recs .u32 C) => (.look z fun cc => match cc with | some (.recs .i64 Z) => (.look p fun cc => match cc with | some (.recs .i64 P) => (.look s fun cc => match cc with | some (.recs .i64 S) => (match nodupB [q, d, c, z, p, s] with | true => .ret (genR [q] (gone [d, c, z, p, s]) n (.tuple []) ((imHp (ptM l g j.val.toNat (⟨en.val, D, C, Z, P, S⟩ : Img)))) 5 (some (LkV l g da its ow im pl lo ∧ rs = rsL l ∧ (⟨en.val, D, C, Z, P, S⟩ : Img).code.length ≤ 9000 ∧ (⟨en.val, D, C, Z, P, S⟩ : Img).places.length ≤ 9000 ∧ (⟨en.val, D, C, Z, P, S⟩ : Img).starts.length ≤ 9000 ∧ 0 ≤ j.val ∧ j.val < its.length))) | false => .fail "put") | _ => .fail "put") | _ => .fail "put") | _ => .fail "put") | _ => .fail "put") | _ => .fail "put") | _ => .fail "put"
  | _ => .fail "put"
theorem fitput (rest : List (Nat × SVal)) (l : List Ob) (g : Glb) (da : List Int) (its : List itT.ty) (ow : List (Int × Int)) (im : List (Option Mp)) (pl : List Int) (lo : List Bool) (rs : List (Option Rmp)) (j : SI) (en : SI) (D C Z P S : List Int) : (fits (envK (G7 ++ rest) [(52, kInstr), (58, kWord), (41, kkreal), (38, kaddress), (57, klkword)] 1) (S1 [.rop [.ro .obj l, .rom .str (.flat (.int .i64) [.int .i64]) (some g), .ro .i64 da, .ro (.flat (.int .i64) [.int .i64, .bool]) its, .ro (.flat (.int .i64) [.int .i64]) ow, .ro (.fmap (.int .i64) .i64) im, .ro .i64 pl, .ro .bool lo], .ptr 0 0, .ro (.fmap (.int .i64) .rel) rs, .int .i64 j] (numC 0 [.cells [.int .u32 en, .own 1, .own 2, .own 3, .own 4, .own 5], .recs .u32 D, .recs .u32 C, .recs .i64 Z, .recs .i64 P, .recs .i64 S]) 6 194) (S1 [lkV l g da its ow im pl lo, .ptr 0 0, .ro rlT rs, .int .i64 (.full j.val)] (imHpO (⟨en.val, D, C, Z, P, S⟩ : Img)) 6 194)) = (
  l = l ∧ some g = some g ∧ da = da ∧ its = its ∧ ow = ow ∧ im = im ∧ pl = pl ∧ lo = lo ∧ rs = rs ∧ SI.val j = SI.val j ∧ SI.val en = SI.val en ∧ D = D ∧ C = C ∧ Z = Z ∧ P = P ∧ S = S) := by kernel_rfl
abbrev Tput (rest : List (Nat × SVal)) (l : List Ob) (g : Glb) (da : List Int) (its : List itT.ty) (ow : List (Int × Int)) (im : List (Option Mp)) (pl : List Int) (lo : List Bool) (rs : List (Option Rmp)) (j : Int) (x : Img) : Prop := Tr.sat (newQ (envK (G7 ++ rest) [(52, kInstr), (58, kWord), (41, kkreal), (38, kaddress), (57, klkword)] 1) (.tuple []) ((imHp (ptM l g j.toNat x))) (1 + 5)) (run (envK (G7 ++ rest) [(52, kInstr), (58, kWord), (41, kkreal), (38, kaddress), (57, klkword)] 1) [(2000004, ptCut l g da its ow im pl lo rs j x), (6, LptW l g da its ow im pl lo rs j.toNat (ptS l j.toNat x))] (bodyOf Tryd.f43) (S1 [lkV l g da its ow im pl lo, .ptr 0 0, .ro rlT rs, .int .i64 (.full j)] (imHpO x) 6 194) (ends (envK (G7 ++ rest) [(52, kInstr), (58, kWord), (41, kkreal), (38, kaddress), (57, klkword)] 1) Tryd.f43.results.toList))
theorem runput (rest : List (Nat × SVal)) (l : List Ob) (g : Glb) (da : List Int) (its : List itT.ty) (ow : List (Int × Int)) (im : List (Option Mp)) (pl : List Int) (lo : List Bool) (rs : List (Option Rmp)) (j : Int) (x : Img) : (Tput rest l g da its ow im pl lo rs j x) = (
  RQ ((0 : Int) ≤ j ∧ j < (↑(List.length ow) : Int)) (RQ ((0 : Int) ≤ (List.getD ow (Int.toNat j) (RT.dflt (RT.flat (FK.int IntKind.i64) [FK.int IntKind.i64]))).fst ∧ (List.getD ow (Int.toNat j) (RT.dflt (RT.flat (FK.int IntKind.i64) [FK.int IntKind.i64]))).fst < (↑(List.length l) : Int)) ((RQ ((0 : Int) ≤ (List.getD ow (Int.toNat j) (RT.dflt (RT.flat (FK.int IntKind.i64) [FK.int IntKind.i64]))).snd ∧ (List.getD ow (Int.toNat j) (RT.dflt (RT.flat (FK.int IntKind.i64) [FK.int IntKind.i64]))).snd < (↑(List.length (List.getD l (Int.toNat (List.getD ow (Int.toNat j) (RT.dflt (RT.flat (FK.int IntKind.i64) [FK.int IntKind.i64]))).fst) (RT.dflt RT.obj)).map) : Int)) (IT (decide (List.getD (List.getD l (Int.toNat (List.getD ow (Int.toNat j) (RT.dflt (RT.flat (FK.int IntKind.i64) [FK.int IntKind.i64]))).fst) (RT.dflt RT.obj)).map (Int.toNat (List.getD ow (Int.toNat j) (RT.dflt (RT.flat (FK.int IntKind.i64) [FK.int IntKind.i64]))).snd) (RT.dflt RT.u8) = (1 : Int))) (RQ (List.length x.starts + List.length [(↑(List.length x.code) : Int)] ≤ (137438953472 : Nat)) (l = l ∧ some g = some g ∧ da = da ∧ its = its ∧ ow = ow ∧ im = im ∧ pl = pl ∧ lo = lo ∧ rs = rs ∧ j = j ∧ (List.getD ow (Int.toNat j) (RT.dflt (RT.flat (FK.int IntKind.i64) [FK.int IntKind.i64]))).fst = (itO l (Int.toNat j)).fst ∧ (List.getD ow (Int.toNat j) (RT.dflt (RT.flat (FK.int IntKind.i64) [FK.int IntKind.i64]))).snd = (itO l (Int.toNat j)).snd ∧ (List.getD l (Int.toNat (List.getD ow (Int.toNat j) (RT.dflt (RT.flat (FK.int IntKind.i64) [FK.int IntKind.i64]))).fst) (RT.dflt RT.obj)).data = (ptO l (Int.toNat j)).data ∧ (List.getD l (Int.toNat (List.getD ow (Int.toNat j) (RT.dflt (RT.flat (FK.int IntKind.i64) [FK.int IntKind.i64]))).fst) (RT.dflt RT.obj)).code = (ptO l (Int.toNat j)).code ∧ (List.getD l (Int.toNat (List.getD ow (Int.toNat j) (RT.dflt (RT.flat (FK.int IntKind.i64) [FK.int IntKind.i64]))).fst) (RT.dflt RT.obj)).map = (ptO l (Int.toNat j)).map ∧ (List.getD l (Int.toNat (List.getD ow (Int.toNat j) (RT.dflt (RT.flat (FK.int IntKind.i64) [FK.int IntKind.i64]))).fst) (RT.dflt RT.obj)).drels = (ptO l (Int.toNat j)).drels ∧ (List.getD l (Int.toNat (List.getD ow (Int.toNat j) (RT.dflt (RT.flat (FK.int IntKind.i64) [FK.int IntKind.i64]))).fst) (RT.dflt RT.obj)).crels = (ptO l (Int.toNat j)).crels ∧ (List.getD l (Int.toNat (List.getD ow (Int.toNat j) (RT.dflt (RT.flat (FK.int IntKind.i64) [FK.int IntKind.i64]))).fst) (RT.dflt RT.obj)).syms = (ptO l (Int.toNat j)).syms ∧ x.entry = (ptS l (Int.toNat j) x).entry ∧ x.data = (ptS l (Int.toNat j) x).data ∧ x.code = (ptS l (Int.toNat j) x).code ∧ x.drefs = (ptS l (Int.toNat j) x).drefs ∧ x.places = (ptS l (Int.toNat j) x).places ∧ x.starts ++ [(↑(List.length x.code) : Int)] = (ptS l (Int.toNat j) x).starts)) (l = l ∧ some g = some g ∧ da = da ∧ its = its ∧ ow = ow ∧ im = im ∧ pl = pl ∧ lo = lo ∧ rs = rs ∧ j = j ∧ (List.getD ow (Int.toNat j) (RT.dflt (RT.flat (FK.int IntKind.i64) [FK.int IntKind.i64]))).fst = (itO l (Int.toNat j)).fst ∧ (List.getD ow (Int.toNat j) (RT.dflt (RT.flat (FK.int IntKind.i64) [FK.int IntKind.i64]))).snd = (itO l (Int.toNat j)).snd ∧ (List.getD l (Int.toNat (List.getD ow (Int.toNat j) (RT.dflt (RT.flat (FK.int IntKind.i64) [FK.int IntKind.i64]))).fst) (RT.dflt RT.obj)).data = (ptO l (Int.toNat j)).data ∧ (List.getD l (Int.toNat (List.getD ow (Int.toNat j) (RT.dflt (RT.flat (FK.int IntKind.i64) [FK.int IntKind.i64]))).fst) (RT.dflt RT.obj)).code = (ptO l (Int.toNat j)).code ∧ (List.getD l (Int.toNat (List.getD ow (Int.toNat j) (RT.dflt (RT.flat (FK.int IntKind.i64) [FK.int IntKind.i64]))).fst) (RT.dflt RT.obj)).map = (ptO l (Int.toNat j)).map ∧ (List.getD l (Int.toNat (List.getD ow (Int.toNat j) (RT.dflt (RT.flat (FK.int IntKind.i64) [FK.int IntKind.i64]))).fst) (RT.dflt RT.obj)).drels = (ptO l (Int.toNat j)).drels ∧ (List.getD l (Int.toNat (List.getD ow (Int.toNat j) (RT.dflt (RT.flat (FK.int IntKind.i64) [FK.int IntKind.i64]))).fst) (RT.dflt RT.obj)).crels = (ptO l (Int.toNat j)).crels ∧ (List.getD l (Int.toNat (List.getD ow (Int.toNat j) (RT.dflt (RT.flat (FK.int IntKind.i64) [FK.int IntKind.i64]))).fst) (RT.dflt RT.obj)).syms = (ptO l (Int.toNat j)).syms ∧ x.entry = (ptS l (Int.toNat j) x).entry ∧ x.data = (ptS l (Int.toNat j) x).data ∧ x.code = (ptS l (Int.toNat j) x).code ∧ x.drefs = (ptS l (Int.toNat j) x).drefs ∧ x.places = (ptS l (Int.toNat j) x).places ∧ x.starts = (ptS l (Int.toNat j) x).starts))) ∧ RQ ((0 : Int) ≤ j ∧ j < (↑(List.length its) : Int)) (IT (!(List.getD its (Int.toNat j) (RT.dflt (RT.flat (FK.int IntKind.i64) [FK.int IntKind.i64, FK.bool]))).snd.snd) (RQ ((0 : Int) ≤ j ∧ j < (↑(List.length its) : Int)) (RQ ((LkV l g da its ow im pl lo ∧ rs = rsL l ∧ List.length (ptS l (Int.toNat j) x).code ≤ (10000 : Nat) ∧ List.length (ptS l (Int.toNat j) x).places ≤ (10000 : Nat) ∧ List.length (ptS l (Int.toNat j) x).starts ≤ (10000 : Nat) ∧ Int.toNat j < List.length its) ∧ l = l ∧ some g = some g ∧ da = da ∧ its = its ∧ ow = ow ∧ im = im ∧ pl = pl ∧ lo = lo ∧ rs = rs ∧ (itO l (Int.toNat j)).fst = (itO l (Int.toNat j)).fst ∧ (itO l (Int.toNat j)).snd = (itO l (Int.toNat j)).snd ∧ (List.getD its (Int.toNat j) (RT.dflt (RT.flat (FK.int IntKind.i64) [FK.int IntKind.i64, FK.bool]))).fst = itS (itF l g) (Int.toNat j) ∧ (0 : Int) = (↑(0 : Nat) : Int) ∧ (ptS l (Int.toNat j) x).entry = (wdN l g (itO l (Int.toNat j)).fst (itO l (Int.toNat j)).snd (ptS l (Int.toNat j) x) (0 : Nat)).entry ∧ (ptS l (Int.toNat j) x).data = (wdN l g (itO l (Int.toNat j)).fst (itO l (Int.toNat j)).snd (ptS l (Int.toNat j) x) (0 : Nat)).data ∧ (ptS l (Int.toNat j) x).code = (wdN l g (itO l (Int.toNat j)).fst (itO l (Int.toNat j)).snd (ptS l (Int.toNat j) x) (0 : Nat)).code ∧ (ptS l (Int.toNat j) x).drefs = (wdN l g (itO l (Int.toNat j)).fst (itO l (Int.toNat j)).snd (ptS l (Int.toNat j) x) (0 : Nat)).drefs ∧ (ptS l (Int.toNat j) x).places = (wdN l g (itO l (Int.toNat j)).fst (itO l (Int.toNat j)).snd (ptS l (Int.toNat j) x) (0 : Nat)).places ∧ (ptS l (Int.toNat j) x).starts = (wdN l g (itO l (Int.toNat j)).fst (itO l (Int.toNat j)).snd (ptS l (Int.toNat j) x) (0 : Nat)).starts) ((wdN l g (itO l (Int.toNat j)).fst (itO l (Int.toNat j)).snd (ptS l (Int.toNat j) x) (Int.toNat (itS (itF l g) (Int.toNat j)))).entry = (ptM l g (Int.toNat j) x).entry ∧ (wdN l g (itO l (Int.toNat j)).fst (itO l (Int.toNat j)).snd (ptS l (Int.toNat j) x) (Int.toNat (itS (itF l g) (Int.toNat j)))).data = (ptM l g (Int.toNat j) x).data ∧ (wdN l g (itO l (Int.toNat j)).fst (itO l (Int.toNat j)).snd (ptS l (Int.toNat j) x) (Int.toNat (itS (itF l g) (Int.toNat j)))).code = (ptM l g (Int.toNat j) x).code ∧ (wdN l g (itO l (Int.toNat j)).fst (itO l (Int.toNat j)).snd (ptS l (Int.toNat j) x) (Int.toNat (itS (itF l g) (Int.toNat j)))).drefs = (ptM l g (Int.toNat j) x).drefs ∧ (wdN l g (itO l (Int.toNat j)).fst (itO l (Int.toNat j)).snd (ptS l (Int.toNat j) x) (Int.toNat (itS (itF l g) (Int.toNat j)))).places = (ptM l g (Int.toNat j) x).places ∧ (wdN l g (itO l (Int.toNat j)).fst (itO l (Int.toNat j)).snd (ptS l (Int.toNat j) x) (Int.toNat (itS (itF l g) (Int.toNat j)))).starts = (ptM l g (Int.toNat j) x).starts))) (RQ ((0 : Int) ≤ (itO l (Int.toNat j)).fst ∧ (itO l (Int.toNat j)).fst < (↑(List.length rs) : Int)) (RQ ((0 : Int) ≤ (itO l (Int.toNat j)).fst ∧ (itO l (Int.toNat j)).fst < (↑(List.length l) : Int) ∧ (0 : Int) ≤ (gGet (RT.dflt RT.rel) (Option.getD (List.getD rs (Int.toNat (itO l (Int.toNat j)).fst) (RT.dflt (RT.fmap (FK.int IntKind.i64) RT.rel))) (@List.nil (FK.ty (FK.int IntKind.i64) × RT.ty RT.rel))) (itO l (Int.toNat j)).snd).sym ∧ (gGet (RT.dflt RT.rel) (Option.getD (List.getD rs (Int.toNat (itO l (Int.toNat j)).fst) (RT.dflt (RT.fmap (FK.int IntKind.i64) RT.rel))) (@List.nil (FK.ty (FK.int IntKind.i64) × RT.ty RT.rel))) (itO l (Int.toNat j)).snd).sym < (↑(List.length (List.getD l (Int.toNat (itO l (Int.toNat j)).fst) (RT.dflt RT.obj)).syms) : Int)) (RQ ((0 : Int) ≤ j ∧ j < (↑(List.length lo) : Int)) (IT (List.getD lo (Int.toNat j) (RT.dflt RT.bool)) (RQ (LkV l g da its ow im pl lo ∧ Own l ((realM l g (itO l (Int.toNat j)).fst (gGet (RT.dflt RT.rel) (Option.getD (List.getD rs (Int.toNat (itO l (Int.toNat j)).fst) (RT.dflt (RT.fmap (FK.int IntKind.i64) RT.rel))) (@List.nil (FK.ty (FK.int IntKind.i64) × RT.ty RT.rel))) (itO l (Int.toNat j)).snd).sym).fst, (realM l g (itO l (Int.toNat j)).fst (gGet (RT.dflt RT.rel) (Option.getD (List.getD rs (Int.toNat (itO l (Int.toNat j)).fst) (RT.dflt (RT.fmap (FK.int IntKind.i64) RT.rel))) (@List.nil (FK.ty (FK.int IntKind.i64) × RT.ty RT.rel))) (itO l (Int.toNat j)).snd).sym).snd)) (RQ (List.length (ptS l (Int.toNat j) x).places + List.length [IntKind.wrap IntKind.i64 ((↑(List.length (ptS l (Int.toNat j) x).code) : Int) + (1 : Int))] ≤ (137438953472 : Nat)) (RQ (List.length (ptS l (Int.toNat j) x).code + List.length [wordW (IntKind.wrap IntKind.i64 (IntKind.wrap IntKind.i64 ((insI (ptO l (Int.toNat j)).code (ptO l (Int.toNat j)).map (itO l (Int.toNat j)).snd).op - (16 : Int)) + (19 : Int))) (insI (ptO l (Int.toNat j)).code (ptO l (Int.toNat j)).map (itO l (Int.toNat j)).snd).a (insI (ptO l (Int.toNat j)).code (ptO l (Int.toNat j)).map (itO l (Int.toNat j)).snd).b (0 : Int) (adrL l g ((realM l g (itO l (Int.toNat j)).fst (gGet (RT.dflt RT.rel) (Option.getD (List.getD rs (Int.toNat (itO l (Int.toNat j)).fst) (RT.dflt (RT.fmap (FK.int IntKind.i64) RT.rel))) (@List.nil (FK.ty (FK.int IntKind.i64) × RT.ty RT.rel))) (itO l (Int.toNat j)).snd).sym).fst, (realM l g (itO l (Int.toNat j)).fst (gGet (RT.dflt RT.rel) (Option.getD (List.getD rs (Int.toNat (itO l (Int.toNat j)).fst) (RT.dflt (RT.fmap (FK.int IntKind.i64) RT.rel))) (@List.nil (FK.ty (FK.int IntKind.i64) × RT.ty RT.rel))) (itO l (Int.toNat j)).snd).sym).snd)), adrL l g ((realM l g (itO l (Int.toNat j)).fst (gGet (RT.dflt RT.rel) (Option.getD (List.getD rs (Int.toNat (itO l (Int.toNat j)).fst) (RT.dflt (RT.fmap (FK.int IntKind.i64) RT.rel))) (@List.nil (FK.ty (FK.int IntKind.i64) × RT.ty RT.rel))) (itO l (Int.toNat j)).snd).sym).fst, (realM l g (itO l (Int.toNat j)).fst (gGet (RT.dflt RT.rel) (Option.getD (List.getD rs (Int.toNat (itO l (Int.toNat j)).fst) (RT.dflt (RT.fmap (FK.int IntKind.i64) RT.rel))) (@List.nil (FK.ty (FK.int IntKind.i64) × RT.ty RT.rel))) (itO l (Int.toNat j)).snd).sym).snd)] ≤ (137438953472 : Nat)) ((ptS l (Int.toNat j) x).entry = (ptM l g (Int.toNat j) x).entry ∧ (ptS l (Int.toNat j) x).data = (ptM l g (Int.toNat j) x).data ∧ (ptS l (Int.toNat j) x).code ++ [wordW (IntKind.wrap IntKind.i64 (IntKind.wrap IntKind.i64 ((insI (ptO l (Int.toNat j)).code (ptO l (Int.toNat j)).map (itO l (Int.toNat j)).snd).op - (16 : Int)) + (19 : Int))) (insI (ptO l (Int.toNat j)).code (ptO l (Int.toNat j)).map (itO l (Int.toNat j)).snd).a (insI (ptO l (Int.toNat j)).code (ptO l (Int.toNat j)).map (itO l (Int.toNat j)).snd).b (0 : Int) (adrL l g ((realM l g (itO l (Int.toNat j)).fst (gGet (RT.dflt RT.rel) (Option.getD (List.getD rs (Int.toNat (itO l (Int.toNat j)).fst) (RT.dflt (RT.fmap (FK.int IntKind.i64) RT.rel))) (@List.nil (FK.ty (FK.int IntKind.i64) × RT.ty RT.rel))) (itO l (Int.toNat j)).snd).sym).fst, (realM l g (itO l (Int.toNat j)).fst (gGet (RT.dflt RT.rel) (Option.getD (List.getD rs (Int.toNat (itO l (Int.toNat j)).fst) (RT.dflt (RT.fmap (FK.int IntKind.i64) RT.rel))) (@List.nil (FK.ty (FK.int IntKind.i64) × RT.ty RT.rel))) (itO l (Int.toNat j)).snd).sym).snd)), adrL l g ((realM l g (itO l (Int.toNat j)).fst (gGet (RT.dflt RT.rel) (Option.getD (List.getD rs (Int.toNat (itO l (Int.toNat j)).fst) (RT.dflt (RT.fmap (FK.int IntKind.i64) RT.rel))) (@List.nil (FK.ty (FK.int IntKind.i64) × RT.ty RT.rel))) (itO l (Int.toNat j)).snd).sym).fst, (realM l g (itO l (Int.toNat j)).fst (gGet (RT.dflt RT.rel) (Option.getD (List.getD rs (Int.toNat (itO l (Int.toNat j)).fst) (RT.dflt (RT.fmap (FK.int IntKind.i64) RT.rel))) (@List.nil (FK.ty (FK.int IntKind.i64) × RT.ty RT.rel))) (itO l (Int.toNat j)).snd).sym).snd)] = (ptM l g (Int.toNat j) x).code ∧ (ptS l (Int.toNat j) x).drefs = (ptM l g (Int.toNat j) x).drefs ∧ (ptS l (Int.toNat j) x).places ++ [IntKind.wrap IntKind.i64 ((↑(List.length (ptS l (Int.toNat j) x).code) : Int) + (1 : Int))] = (ptM l g (Int.toNat j) x).places ∧ (ptS l (Int.toNat j) x).starts = (ptM l g (Int.toNat j) x).starts)))) (RQ ((0 : Int) ≤ j ∧ j < (↑(List.length its) : Int)) (RQ ((0 : Int) ≤ (List.getD its (Int.toNat j) (RT.dflt (RT.flat (FK.int IntKind.i64) [FK.int IntKind.i64, FK.bool]))).snd.fst ∧ (List.getD its (Int.toNat j) (RT.dflt (RT.flat (FK.int IntKind.i64) [FK.int IntKind.i64, FK.bool]))).snd.fst < (↑(List.length pl) : Int)) (RQ ((0 : Int) ≤ j ∧ j < (↑(List.length pl) : Int)) (RQ (List.length (ptS l (Int.toNat j) x).code + List.length [wordW (insI (ptO l (Int.toNat j)).code (ptO l (Int.toNat j)).map (itO l (Int.toNat j)).snd).op (insI (ptO l (Int.toNat j)).code (ptO l (Int.toNat j)).map (itO l (Int.toNat j)).snd).a (insI (ptO l (Int.toNat j)).code (ptO l (Int.toNat j)).map (itO l (Int.toNat j)).snd).b (IntKind.wrap IntKind.u8 (IntKind.wrap IntKind.i64 (List.getD pl (Int.toNat (List.getD its (Int.toNat j) (RT.dflt (RT.flat (FK.int IntKind.i64) [FK.int IntKind.i64, FK.bool]))).snd.fst) (RT.dflt RT.i64) - List.getD pl (Int.toNat j) (RT.dflt RT.i64)))) (insI (ptO l (Int.toNat j)).code (ptO l (Int.toNat j)).map (itO l (Int.toNat j)).snd).imm] ≤ (137438953472 : Nat)) ((ptS l (Int.toNat j) x).entry = (ptM l g (Int.toNat j) x).entry ∧ (ptS l (Int.toNat j) x).data = (ptM l g (Int.toNat j) x).data ∧ (ptS l (Int.toNat j) x).code ++ [wordW (insI (ptO l (Int.toNat j)).code (ptO l (Int.toNat j)).map (itO l (Int.toNat j)).snd).op (insI (ptO l (Int.toNat j)).code (ptO l (Int.toNat j)).map (itO l (Int.toNat j)).snd).a (insI (ptO l (Int.toNat j)).code (ptO l (Int.toNat j)).map (itO l (Int.toNat j)).snd).b (IntKind.wrap IntKind.u8 (IntKind.wrap IntKind.i64 (List.getD pl (Int.toNat (List.getD its (Int.toNat j) (RT.dflt (RT.flat (FK.int IntKind.i64) [FK.int IntKind.i64, FK.bool]))).snd.fst) (RT.dflt RT.i64) - List.getD pl (Int.toNat j) (RT.dflt RT.i64)))) (insI (ptO l (Int.toNat j)).code (ptO l (Int.toNat j)).map (itO l (Int.toNat j)).snd).imm] = (ptM l g (Int.toNat j) x).code ∧ (ptS l (Int.toNat j) x).drefs = (ptM l g (Int.toNat j) x).drefs ∧ (ptS l (Int.toNat j) x).places = (ptM l g (Int.toNat j) x).places ∧ (ptS l (Int.toNat j) x).starts = (ptM l g (Int.toNat j) x).starts))))))))))))) := by kernel_rfl
set_option maxHeartbeats 4000000 in
theorem gput (l : List Ob) (g : Glb) (da : List Int) (its : List itT.ty) (ow : List (Int × Int)) (im : List (Option Mp)) (pl : List Int) (lo : List Bool) (rs : List (Option Rmp)) (j : Int) (x : Img) (hv : LkV l g da its ow im pl lo ∧ rs = rsL l ∧ x.code.length ≤ 9000 ∧ x.places.length ≤ 9000 ∧ x.starts.length ≤ 9000 ∧ 0 ≤ j ∧ j < its.length) : Box (Tput rest l g da its ow im pl lo rs j x) := by
  refine .of (runput rest l g da its ow im pl lo rs j x) ?_
  delta RQ IT
  obtain ⟨V, rfl, f1, f2, f3, j1, j2⟩ := hv
  obtain ⟨n, rfl⟩ : ∃ n : Nat, j = n := ⟨j.toNat, (Int.toNat_of_nonneg j1).symm⟩
  have V' := V
  obtain ⟨K, rfl, rfl, rfl, rfl, rfl, rfl⟩ := V
  have hlen : (itF l g).length = oBs l l.length := K.bs.2.1
  have hn : n < oBs l l.length := by omega
  obtain ⟨o, w, I⟩ := itAt hn
  have ho := I.ho
  have hw := I.hw
  have hM : ptM l g n x = _ := ptM.eq_1 l g n x
  have hS : ptS l n x = _ := ptS.eq_1 l n x
  have hPe : (ptS l n x).code = x.code ∧ (ptS l n x).places = x.places ∧ (ptS l n x).starts.length ≤ x.starts.length + 1 := by
    rw [hS]; split
    · exact ⟨rfl, rfl, by simp⟩
    · exact ⟨rfl, rfl, by omega⟩
  have how : (oOw l l.length).length = oBs l l.length := oOw_len l _
  have hlo : (loF l g).length = (itF l g).length := rlx_len _
  have hpl : (plF l g).length = (itF l g).length + 1 := plL_len _ _ _
  have hrs : (rsL l).length = l.length := rsU_len l _
  have hI1 : (itO l n).1 = o := by rw [I.own]
  have hI2 : (itO l n).2 = w := by rw [I.own]
  have e0 : obN l (itO l n).1.toNat = obN l o := by rw [hI1, Int.toNat_natCast]
  have q1 : 0 ≤ (itO l n).1 ∧ (itO l n).1 < l.length := by rw [hI1]; omega
  have q2 : 0 ≤ (itO l n).2 ∧ (itO l n).2 < ((obN l (itO l n).1.toNat).map.length : Nat) := by rw [e0, hI2]; omega
  simp only [Int.toNat_natCast, eq_self, true_and, and_true]
  refine ⟨by omega, fun _ => ⟨q1, fun _ => ⟨⟨q2, fun _ => ⟨fun g1 => ?_, fun g1 => ?_⟩⟩, ⟨by omega, by omega⟩, fun _ => ⟨fun g1 => ?_, fun g1 => ?_⟩⟩⟩⟩
  · have g1 := of_decide_eq_true g1
    have g1 : (obN l (itO l n).1.toNat).map.getD (itO l n).2.toNat 0 = 1 := g1
    rw [if_pos g1] at hS
    rw [hS]
    refine ⟨by simp only [List.length_singleton]; omega, fun _ => ?_⟩
    exact ⟨rfl, rfl, rfl, rfl, rfl, rfl, rfl, rfl, rfl, rfl, rfl, rfl, rfl, rfl⟩
  · have g1 := of_decide_eq_false g1
    have g1 : ¬ (obN l (itO l n).1.toNat).map.getD (itO l n).2.toNat 0 = 1 := g1
    rw [if_neg g1] at hS
    rw [hS]
    exact ⟨rfl, rfl, rfl, rfl, rfl, rfl, rfl, rfl, rfl, rfl, rfl, rfl, rfl, rfl⟩
  · have g1 : itB (itF l g) n = false := by rw [Bool.not_eq_true'] at g1; exact g1
    rw [if_pos g1] at hM
    obtain ⟨p1, p2, p3⟩ := hPe
    rw [hM]
    exact ⟨by omega, fun _ => ⟨⟨⟨V', by rw [p1]; omega, by rw [p2]; omega, by omega, by omega⟩, rfl, rfl, rfl, rfl, rfl, rfl, rfl, rfl⟩, fun _ => ⟨rfl, rfl, rfl, rfl, rfl, rfl⟩⟩⟩
  · have g1 : itB (itF l g) n = true := by rw [Bool.not_eq_false'] at g1; exact g1
    rw [if_neg (by rw [g1]; simp)] at hM
    obtain ⟨p1, p2, p3⟩ := hPe
    obtain ⟨k, k1, k2, k3, k4, k5, k6, k7, k8⟩ := I.br K.nm g1
    obtain ⟨c1, c2, c3, c4, _⟩ := (K.nm.val o ho).crel k1 _ rfl
    have eR : rG l (itO l n).1 (itO l n).2 = relN l o k := by rw [hI1, hI2]; exact k5
    have c3' : 0 ≤ (rG l (itO l n).1 (itO l n).2).sym := by rw [eR]; exact c3
    have c4' : (rG l (itO l n).1 (itO l n).2).sym < ((obN l (itO l n).1.toNat).syms.length : Nat) := by rw [eR, e0]; exact c4
    have O : Own l (itTo l g n) := by unfold itTo; rw [eR, hI1]; exact K.nm.own ho c3 c4
    have hop : (itI l n).op = 16 ∨ (itI l n).op = 17 ∨ (itI l n).op = 18 := by unfold itI; rw [e0, hI2]; exact short_op k8
    refine ⟨by rw [hrs]; exact q1, fun _ => ⟨⟨q1.1, q1.2, c3', c4'⟩, fun _ => ⟨by omega, fun _ => ⟨fun g2 => ?_, fun g2 => ?_⟩⟩⟩⟩
    · rw [if_pos (show (loF l g).getD n false = true from g2)] at hM
      have w1 : IntKind.i64.wrap (IntKind.i64.wrap ((itI l n).op - 16) + 19) = (itI l n).op - 16 + 19 := by rcases hop with h | h | h <;> rw [h] <;> rfl
      have w2 : IntKind.i64.wrap (((ptS l n x).code.length : Nat) + 1) = ((ptS l n x).code.length : Nat) + 1 := by rw [IntKind.wrap_i64, p1]; omega
      rw [hM, w2]
      refine ⟨⟨V', O⟩, fun _ => ⟨by rw [p2]; simp only [List.length_singleton]; omega, fun _ => ⟨by rw [p1]; simp only [List.length_cons, List.length_nil]; omega, fun _ => ⟨rfl, rfl, ?_, rfl, rfl, rfl⟩⟩⟩⟩
      show (ptS l n x).code ++ [wordW (IntKind.i64.wrap (IntKind.i64.wrap ((itI l n).op - 16) + 19)) _ _ 0 (adrL l g (itTo l g n)), adrL l g (itTo l g n)] = _
      rw [w1]; rfl
    · rw [if_neg (show ¬ (loF l g).getD n false = true by rw [show (loF l g).getD n false = false from g2]; simp)] at hM
      have ha : 0 ≤ itG (itF l g) n ∧ itG (itF l g) n ≤ ((oBs l l.length : Nat) : Int) := brO_aim K.nm l.length (Nat.le_refl _) n
      have hp1 := K.plN (n := n) (by omega)
      have hp2 := K.plN (n := (itG (itF l g) n).toNat) (by omega)
      have e1 : (plF l g).getD n RT.i64.dflt = plN l g n := plL_get _ _ _ _ (by omega)
      have e2 : (plF l g).getD (itG (itF l g) n).toNat RT.i64.dflt = plN l g (itG (itF l g) n).toNat := plL_get _ _ _ _ (by omega)
      have w1 : IntKind.i64.wrap (plN l g (itG (itF l g) n).toNat - plN l g n) = plN l g (itG (itF l g) n).toNat - plN l g n := by rw [IntKind.wrap_i64]; omega
      rw [hM]
      refine ⟨by omega, fun _ => ⟨by show 0 ≤ itG (itF l g) n ∧ itG (itF l g) n < _; omega, fun _ => ⟨by omega, fun _ => ⟨by rw [p1]; simp only [List.length_singleton]; omega, fun _ => ⟨rfl, rfl, ?_, rfl, rfl, rfl⟩⟩⟩⟩⟩
      show (ptS l n x).code ++ [wordW (itI l n).op _ _ (IntKind.u8.wrap (IntKind.i64.wrap ((plF l g).getD (itG (itF l g) n).toNat RT.i64.dflt - (plF l g).getD n RT.i64.dflt))) (itI l n).imm] = _
      rw [e1, e2, w1]; rfl
set_option maxHeartbeats 4000000 in
theorem cput : Con ea has (G7 ++ rest) 43 kput := by
  refine gen_mk Tryd.func43 194 1 (con := [(52, kInstr), (58, kWord), (41, kkreal), (38, kaddress), (57, klkword)]) ⟨cInstr, cWord, ckreal, caddress, clkword, trivial⟩ (fun hA hr hv => ?_) (by kernel_rfl) (by kernel_rfl) Tryd.ntmps43
  unfold kput at hr; split at hr
  · rename_i l g da its ow im pl lo q rs j
    simp only [Acc.run] at hr
    split at hr
    · rename_i en d c z p s hq
      simp only [Acc.run] at hr
      split at hr
      · rename_i D hd
        simp only [Acc.run] at hr
        split at hr
        · rename_i C hc
          simp only [Acc.run] at hr
          split at hr
          · rename_i Z hz
            simp only [Acc.run] at hr
            split at hr
            · rename_i P hp
              simp only [Acc.run] at hr
              split at hr
              · rename_i S hs
                split at hr
                · rename_i hnd
                  have := ret_ok hr; subst this
                  refine ⟨[q], [d, c, z, p, s], [.cells [.int .u32 en, .own 1, .own 2, .own 3, .own 4, .own 5], .recs .u32 D, .recs .u32 C, .recs .i64 Z, .recs .i64 P, .recs .i64 S], [.rop [.ro .obj l, .rom .str (.flat (.int .i64) [.int .i64]) (some g), .ro .i64 da, .ro (.flat (.int .i64) [.int .i64, .bool]) its, .ro (.flat (.int .i64) [.int .i64]) ow, .ro (.fmap (.int .i64) .i64) im, .ro .i64 pl, .ro .bool lo], .ptr 0 0, .ro (.fmap (.int .i64) .rel) rs, .int .i64 j], (S1 [lkV l g da its ow im pl lo, .ptr 0 0, .ro rlT rs, .int .i64 (.full j.val)] (imHpO (⟨en.val, D, C, Z, P, S⟩ : Img)) 6 194), [(2000004, ptCut l g da its ow im pl lo rs j.val (⟨en.val, D, C, Z, P, S⟩ : Img)), (6, LptW l g da its ow im pl lo rs j.val.toNat (ptS l j.val.toNat (⟨en.val, D, C, Z, P, S⟩ : Img)))], .tuple [], (imHp (ptM l g j.val.toNat (⟨en.val, D, C, Z, P, S⟩ : Img))), 5, rfl, rfl, ⟨rfl, rfl, rfl⟩, hnd, ⟨hq, hd, hc, hz, hp, hs, trivial⟩, rfl, rfl, .of (fitput rest l g da its ow im pl lo rs j en D C Z P S) (by simp [nilR]), rfl, (fun W R ρ0 own0 hown => hl1 (by kernel_rfl) (by kernel_rfl) (lptW l g da its ow im pl lo rs j.val.toNat (ptS l j.val.toNat (⟨en.val, D, C, Z, P, S⟩ : Img)) hown)), gput l g da its ow im pl lo rs j.val ⟨en.val, D, C, Z, P, S⟩ (hv _ rfl)⟩
                · cases hr
              · cases hr
            · cases hr
          · cases hr
        · cases hr
      · cases hr
    · cases hr
  · cases hr
end
end Go.Proofs.YtacmmedhjebfjaaDoor
set_option linter.unusedVariables false
set_option linter.unusedSimpArgs false
set_option linter.unusedSectionVars false
namespace Go.Proofs.YtacmmedhjebfjaaDoor
open Go.RowKit Go.Sy Go.Fac
section
variable {ea : Ear} {has : Int → Prop} {rest : List (Nat × SVal)} [ht : Nonempty (EType ea)]
abbrev lkW (l : List Ob) (g : Glb) : SVal := lkV l g (oDa l l.length) (itF l g) (oOw l l.length) (imL l) (plF l g) (loF l g)
abbrev zCell : Option Cont := some (.cells [.int .u32 (.full 0), .nilslice, .nilslice, .nilslice, .nilslice, .nilslice])
abbrev oiBox (l : List Ob) (g : Glb) : Option Cont := some (.cells [.int .u32 (.full (adrL l g (glG g mainT))), .own 2, .nilslice, .own 3, .nilslice, .nilslice])
abbrev oiHp (l : List Ob) (g : Glb) (x : List Int × List Int) : List (Nat × Option Cont) := [(0, zCell), (1, oiBox l g), (2, some (.recs .u32 x.1)), (3, some (.recs .i64 x.2))]
def HimI (l : List Ob) (g : Glb) (ii : Nat) (i : Nat) : SState := { fr := [(0, lkW l g), (2, .ptr 0 0), (3, .ptr 1 0), (4, .int .i64 (.sym ii 0 1000000)), (27, .ro .obj l), (28, .int .i64 (.full l.length)), (29, .int .i64 (.sym ii 0 1000000)), (41, .ro .rel (obN l ii).drels), (42, .int .i64 (.full (obN l ii).drels.length)), (43, .int .i64 (.sym i 0 1000000))], hp := oiHp l g (dtJ l g ii ((dtO l g ii).1 ++ (obN l ii).data, (dtO l g ii).2) i), next := 4, sz := 136 }
def XimI (l : List Ob) (g : Glb) (ii : Nat) : SState := { fr := [(0, lkW l g), (2, .ptr 0 0), (3, .ptr 1 0), (27, .ro .obj l), (28, .int .i64 (.full l.length)), (29, .int .i64 (.sym ii 0 1000000))], hp := oiHp l g (dtO l g (ii + 1)), next := 4, sz := 136 }
def LimI (l : List Ob) (g : Glb) (ii : Nat) : LSum := ⟨HimI l g ii 0, fun k => k (.exit 2) (XimI l g ii), LkOk l g ∧ ii < l.length⟩
theorem bimI (rest : List (Nat × SVal)) (l : List Ob) (g : Glb) (ii : Nat) (i : Nat) : (Tr.sat (rnd1 (env (G7 ++ rest) [(41, kkreal), (38, kaddress), (42, kksym), (43, kput)]) (fun _ => True) ((obN l ii).drels.length) (HimI l g ii) 2 (XimI l g ii) i) (run (env (G7 ++ rest) [(41, kkreal), (38, kaddress), (42, kksym), (43, kput)]) [] (loopN (loopN (bodyOf Tryd.f30) 0) 0) (HimI l g ii i) .leaf)) = (
  IT (decide ((↑i : Int) < (↑(List.length (obN l ii).drels) : Int))) (RQ ((0 : Int) ≤ (↑i : Int) ∧ (↑i : Int) < (↑(List.length (obN l ii).drels) : Int)) (RQ ((0 : Int) ≤ (↑ii : Int) ∧ (↑ii : Int) < (↑(List.length l) : Int) ∧ (0 : Int) ≤ (List.getD (obN l ii).drels (Int.toNat (↑i : Int)) (RT.dflt RT.rel)).sym ∧ (List.getD (obN l ii).drels (Int.toNat (↑i : Int)) (RT.dflt RT.rel)).sym < (↑(List.length (List.getD l (Int.toNat (↑ii : Int)) (RT.dflt RT.obj)).syms) : Int)) (RQ ((0 : Int) ≤ (↑ii : Int) ∧ (↑ii : Int) < (↑(List.length (oDa l (List.length l))) : Int)) (RQ (LkV l g (oDa l (List.length l)) (itF l g) (oOw l (List.length l)) (imL l) (plF l g) (loF l g) ∧ Own l ((realM l g (↑ii : Int) (List.getD (obN l ii).drels (Int.toNat (↑i : Int)) (RT.dflt RT.rel)).sym).fst, (realM l g (↑ii : Int) (List.getD (obN l ii).drels (Int.toNat (↑i : Int)) (RT.dflt RT.rel)).sym).snd)) (RQ ((0 : Int) ≤ IntKind.wrap IntKind.i64 (List.getD (oDa l (List.length l)) (Int.toNat (↑ii : Int)) (RT.dflt RT.i64) + (List.getD (obN l ii).drels (Int.toNat (↑i : Int)) (RT.dflt RT.rel)).at_) ∧ IntKind.wrap IntKind.i64 (List.getD (oDa l (List.length l)) (Int.toNat (↑ii : Int)) (RT.dflt RT.i64) + (List.getD (obN l ii).drels (Int.toNat (↑i : Int)) (RT.dflt RT.rel)).at_) < (↑(List.length (dtJ l g ii ((dtO l g ii).fst ++ (obN l ii).data, (dtO l g ii).snd) i).fst) : Int)) (RQ ((0 : Int) ≤ (realM l g (↑ii : Int) (List.getD (obN l ii).drels (Int.toNat (↑i : Int)) (RT.dflt RT.rel)).sym).fst ∧ (realM l g (↑ii : Int) (List.getD (obN l ii).drels (Int.toNat (↑i : Int)) (RT.dflt RT.rel)).sym).fst < (↑(List.length l) : Int) ∧ (0 : Int) ≤ (realM l g (↑ii : Int) (List.getD (obN l ii).drels (Int.toNat (↑i : Int)) (RT.dflt RT.rel)).sym).snd ∧ (realM l g (↑ii : Int) (List.getD (obN l ii).drels (Int.toNat (↑i : Int)) (RT.dflt RT.rel)).sym).snd < (↑(List.length (List.getD l (Int.toNat (realM l g (↑ii : Int) (List.getD (obN l ii).drels (Int.toNat (↑i : Int)) (RT.dflt RT.rel)).sym).fst) (RT.dflt RT.obj)).syms) : Int)) (IT (decide ((symAt l (realM l g (↑ii : Int) (List.getD (obN l ii).drels (Int.toNat (↑i : Int)) (RT.dflt RT.rel)).sym).fst (realM l g (↑ii : Int) (List.getD (obN l ii).drels (Int.toNat (↑i : Int)) (RT.dflt RT.rel)).sym).snd).in_ = (2 : Int))) (RQ (List.length (dtJ l g ii ((dtO l g ii).fst ++ (obN l ii).data, (dtO l g ii).snd) i).snd + List.length [IntKind.wrap IntKind.i64 (List.getD (oDa l (List.length l)) (Int.toNat (↑ii : Int)) (RT.dflt RT.i64) + (List.getD (obN l ii).drels (Int.toNat (↑i : Int)) (RT.dflt RT.rel)).at_)] ≤ (137438953472 : Nat)) (i < List.length (obN l ii).drels ∧ True ∧ l = l ∧ some g = some g ∧ oDa l (List.length l) = oDa l (List.length l) ∧ itF l g = itF l g ∧ oOw l (List.length l) = oOw l (List.length l) ∧ imL l = imL l ∧ plF l g = plF l g ∧ loF l g = loF l g ∧ (↑ii : Int) = (↑ii : Int) ∧ l = l ∧ (↑(List.length l) : Int) = (↑(List.length l) : Int) ∧ (↑ii : Int) = (↑ii : Int) ∧ (obN l ii).drels = (obN l ii).drels ∧ (↑(List.length (obN l ii).drels) : Int) = (↑(List.length (obN l ii).drels) : Int) ∧ (↑i : Int) + (1 : Int) = (↑(i + (1 : Nat)) : Int) ∧ ((0 : Int) ≤ (↑(i + (1 : Nat)) : Int) ∧ (↑(i + (1 : Nat)) : Int) ≤ (1000000 : Int)) ∧ (0 : Int) = (0 : Int) ∧ adrL l g (glG g mainT) = adrL l g (glG g mainT) ∧ List.set (dtJ l g ii ((dtO l g ii).fst ++ (obN l ii).data, (dtO l g ii).snd) i).fst (Int.toNat (IntKind.wrap IntKind.i64 (List.getD (oDa l (List.length l)) (Int.toNat (↑ii : Int)) (RT.dflt RT.i64) + (List.getD (obN l ii).drels (Int.toNat (↑i : Int)) (RT.dflt RT.rel)).at_))) (IntKind.wrap IntKind.u32 (adrL l g ((realM l g (↑ii : Int) (List.getD (obN l ii).drels (Int.toNat (↑i : Int)) (RT.dflt RT.rel)).sym).fst, (realM l g (↑ii : Int) (List.getD (obN l ii).drels (Int.toNat (↑i : Int)) (RT.dflt RT.rel)).sym).snd) + IntKind.wrap IntKind.u32 (List.getD (obN l ii).drels (Int.toNat (↑i : Int)) (RT.dflt RT.rel)).add)) = (dtJ l g ii ((dtO l g ii).fst ++ (obN l ii).data, (dtO l g ii).snd) (i + (1 : Nat))).fst ∧ (dtJ l g ii ((dtO l g ii).fst ++ (obN l ii).data, (dtO l g ii).snd) i).snd ++ [IntKind.wrap IntKind.i64 (List.getD (oDa l (List.length l)) (Int.toNat (↑ii : Int)) (RT.dflt RT.i64) + (List.getD (obN l ii).drels (Int.toNat (↑i : Int)) (RT.dflt RT.rel)).at_)] = (dtJ l g ii ((dtO l g ii).fst ++ (obN l ii).data, (dtO l g ii).snd) (i + (1 : Nat))).snd)) (i < List.length (obN l ii).drels ∧ True ∧ l = l ∧ some g = some g ∧ oDa l (List.length l) = oDa l (List.length l) ∧ itF l g = itF l g ∧ oOw l (List.length l) = oOw l (List.length l) ∧ imL l = imL l ∧ plF l g = plF l g ∧ loF l g = loF l g ∧ (↑ii : Int) = (↑ii : Int) ∧ l = l ∧ (↑(List.length l) : Int) = (↑(List.length l) : Int) ∧ (↑ii : Int) = (↑ii : Int) ∧ (obN l ii).drels = (obN l ii).drels ∧ (↑(List.length (obN l ii).drels) : Int) = (↑(List.length (obN l ii).drels) : Int) ∧ (↑i : Int) + (1 : Int) = (↑(i + (1 : Nat)) : Int) ∧ ((0 : Int) ≤ (↑(i + (1 : Nat)) : Int) ∧ (↑(i + (1 : Nat)) : Int) ≤ (1000000 : Int)) ∧ (0 : Int) = (0 : Int) ∧ adrL l g (glG g mainT) = adrL l g (glG g mainT) ∧ List.set (dtJ l g ii ((dtO l g ii).fst ++ (obN l ii).data, (dtO l g ii).snd) i).fst (Int.toNat (IntKind.wrap IntKind.i64 (List.getD (oDa l (List.length l)) (Int.toNat (↑ii : Int)) (RT.dflt RT.i64) + (List.getD (obN l ii).drels (Int.toNat (↑i : Int)) (RT.dflt RT.rel)).at_))) (IntKind.wrap IntKind.u32 (adrL l g ((realM l g (↑ii : Int) (List.getD (obN l ii).drels (Int.toNat (↑i : Int)) (RT.dflt RT.rel)).sym).fst, (realM l g (↑ii : Int) (List.getD (obN l ii).drels (Int.toNat (↑i : Int)) (RT.dflt RT.rel)).sym).snd) + IntKind.wrap IntKind.u32 (List.getD (obN l ii).drels (Int.toNat (↑i : Int)) (RT.dflt RT.rel)).add)) = (dtJ l g ii ((dtO l g ii).fst ++ (obN l ii).data, (dtO l g ii).snd) (i + (1 : Nat))).fst ∧ (dtJ l g ii ((dtO l g ii).fst ++ (obN l ii).data, (dtO l g ii).snd) i).snd = (dtJ l g ii ((dtO l g ii).fst ++ (obN l ii).data, (dtO l g ii).snd) (i + (1 : Nat))).snd)))))))) (Nat.beq (2 : Nat) (2 : Nat) = true ∧ l = l ∧ some g = some g ∧ oDa l (List.length l) = oDa l (List.length l) ∧ itF l g = itF l g ∧ oOw l (List.length l) = oOw l (List.length l) ∧ imL l = imL l ∧ plF l g = plF l g ∧ loF l g = loF l g ∧ l = l ∧ (↑(List.length l) : Int) = (↑(List.length l) : Int) ∧ (↑ii : Int) = (↑ii : Int) ∧ (0 : Int) = (0 : Int) ∧ adrL l g (glG g mainT) = adrL l g (glG g mainT) ∧ (dtJ l g ii ((dtO l g ii).fst ++ (obN l ii).data, (dtO l g ii).snd) i).fst = (dtO l g (ii + (1 : Nat))).fst ∧ (dtJ l g ii ((dtO l g ii).fst ++ (obN l ii).data, (dtO l g ii).snd) i).snd = (dtO l g (ii + (1 : Nat))).snd)) := by kernel_rfl
set_option maxHeartbeats 4000000 in
theorem limI (l : List Ob) (g : Glb) (ii : Nat) {W : World} {R own0 : Nat → Prop} {ρ0 : Nat → Option Value} (hown : HownOk (env (G7 ++ rest) [(41, kkreal), (38, kaddress), (42, kksym), (43, kput)]) own0 ρ0) : LOk Tryd.prog (env (G7 ++ rest) [(41, kkreal), (38, kaddress), (42, kksym), (43, kput)]) (ctx ea has) (G7 ++ rest) W R own0 ρ0 (loopN (loopN (bodyOf Tryd.f30) 0) 0) (LimI l g ii) := by
  refine loop1_ok (J := fun _ => True) (N := (obN l ii).drels.length) (H := HimI l g ii) (X := XimI l g ii) (env_ok (con := [(41, kkreal), (38, kaddress), (42, kksym), (43, kput)]) ⟨ckreal, caddress, cksym, cput, trivial⟩) hown (ls := fun i => []) (fun i => noSums (by kernel_rfl)) (fun hm i hi hj => ?_) 0 (fun hm => by first | exact Nat.zero_le _ | omega) (fun hm => trivial)
  rw [bimI rest l g ii i]
  delta RQ IT
  obtain ⟨K, hii⟩ := hm
  have V := K.nm.val ii hii
  have L := dtJ_len l g ii ((dtO l g ii).1 ++ (obN l ii).data, (dtO l g ii).2) i
  have hO := dtO_len l g ii
  have hR := dtO_ref K.nm ii (by omega)
  have hf := K.nm.few
  have hdr := V.drels
  have hda : (oDa l l.length).length = l.length := oDa_len l _
  have hd : (oDa l l.length).getD ii RT.i64.dflt = oDn l ii := oDa_get l _ _ _ hii
  have hdn := K.dn hii
  have hs : dtJ l g ii ((dtO l g ii).1 ++ (obN l ii).data, (dtO l g ii).2) (i + 1) = dtS l g ii i (dtJ l g ii ((dtO l g ii).1 ++ (obN l ii).data, (dtO l g ii).2) i) := rfl
  have L1 : (dtJ l g ii ((dtO l g ii).1 ++ (obN l ii).data, (dtO l g ii).2) i).1.length = (dtO l g ii).1.length + (obN l ii).data.length := by rw [L.1, List.length_append]
  have L2 : (dtJ l g ii ((dtO l g ii).1 ++ (obN l ii).data, (dtO l g ii).2) i).2.length ≤ (dtO l g ii).2.length + i := L.2
  have hend : i = (obN l ii).drels.length → dtO l g (ii + 1) = dtJ l g ii ((dtO l g ii).1 ++ (obN l ii).data, (dtO l g ii).2) i := fun e => by rw [e]; rfl
  simp only [Int.toNat_natCast, eq_self, true_and, and_true]
  rw [hs]
  generalize dtJ l g ii ((dtO l g ii).1 ++ (obN l ii).data, (dtO l g ii).2) i = x at *
  have hS : dtS l g ii i x = _ := dtS.eq_1 l g ii i x
  refine ⟨fun h => ?_, fun h => ?_⟩
  · have h := of_decide_eq_true h
    have hlt : i < (obN l ii).drels.length := by omega
    obtain ⟨c1, c2, c3, c4, c5, c6, _⟩ := V.drel hlt _ rfl
    have O := K.nm.own hii c3 c4
    have hb2 : 0 ≤ (realM l g ii (drlN l ii i).sym).1 ∧ (realM l g ii (drlN l ii i).sym).1 < l.length ∧ 0 ≤ (realM l g ii (drlN l ii i).sym).2 ∧ (realM l g ii (drlN l ii i).sym).2 < ((obN l (realM l g ii (drlN l ii i).sym).1.toNat).syms.length : Nat) := by
      obtain ⟨p, q, e, h1, h2, _⟩ := O
      rw [e]; simp only [Int.toNat_natCast]; omega
    have w : IntKind.i64.wrap (oDn l ii + (drlN l ii i).at_) = oDn l ii + (drlN l ii i).at_ := by
      show IntKind.i64.wrap (oDn l ii + ((obN l ii).drels.getD i RT.rel.dflt).at_) = oDn l ii + ((obN l ii).drels.getD i RT.rel.dflt).at_
      rw [IntKind.wrap_i64]; omega
    have ww : IntKind.i64.wrap ((oDa l l.length).getD ii RT.i64.dflt + ((obN l ii).drels.getD i RT.rel.dflt).at_) = oDn l ii + (drlN l ii i).at_ := by rw [hd]; exact w
    rw [ww]
    refine ⟨by omega, fun _ => ⟨⟨by omega, by omega, c3, c4⟩, fun _ => ⟨by omega, fun _ => ⟨⟨⟨K, rfl, rfl, rfl, rfl, rfl, rfl⟩, O⟩, fun _ => ⟨?_, fun _ => ⟨hb2, fun _ => ⟨fun g1 => ?_, fun g1 => ?_⟩⟩⟩⟩⟩⟩⟩
    · show 0 ≤ oDn l ii + ((obN l ii).drels.getD i RT.rel.dflt).at_ ∧ oDn l ii + ((obN l ii).drels.getD i RT.rel.dflt).at_ < (x.1.length : Nat)
      omega
    · have g1 := of_decide_eq_true g1
      rw [if_pos g1] at hS
      rw [hS]
      exact ⟨by simp only [List.length_singleton]; omega, fun _ => ⟨hlt, by omega, by omega, rfl, rfl⟩⟩
    · have g1 := of_decide_eq_false g1
      rw [if_neg g1] at hS
      rw [hS]
      exact ⟨hlt, by omega, by omega, rfl, rfl⟩
  · have h := of_decide_eq_false h
    rw [hend (by omega)]
    exact ⟨rfl, rfl, rfl⟩
def HimA (l : List Ob) (g : Glb) (i : Nat) : SState := { fr := [(0, lkW l g), (2, .ptr 0 0), (3, .ptr 1 0), (27, .ro .obj l), (28, .int .i64 (.full l.length)), (29, .int .i64 (.sym i 0 1000000))], hp := oiHp l g (dtO l g i), next := 4, sz := 136 }
def XimA (l : List Ob) (g : Glb) : SState := { fr := [(0, lkW l g), (2, .ptr 0 0), (3, .ptr 1 0)], hp := oiHp l g (dtO l g l.length), next := 4, sz := 136 }
def LimA (l : List Ob) (g : Glb) : LSum := ⟨HimA l g 0, fun k => k (.exit 0) (XimA l g), LkOk l g⟩
theorem bimA (rest : List (Nat × SVal)) (l : List Ob) (g : Glb) (i : Nat) : (Tr.sat (rnd1 (env (G7 ++ rest) [(41, kkreal), (38, kaddress), (42, kksym), (43, kput)]) (fun _ => True) (l.length) (HimA l g) 0 (XimA l g) i) (run (env (G7 ++ rest) [(41, kkreal), (38, kaddress), (42, kksym), (43, kput)]) [(7, LimI l g i)] (loopN (bodyOf Tryd.f30) 0) (HimA l g i) .leaf)) = (
  IT (decide ((↑i : Int) < (↑(List.length l) : Int))) (RQ ((0 : Int) ≤ (↑i : Int) ∧ (↑i : Int) < (↑(List.length l) : Int)) (RQ (List.length (dtO l g i).fst + List.length (List.getD l (Int.toNat (↑i : Int)) (RT.dflt RT.obj)).data ≤ (137438953472 : Nat)) (RQ ((LkOk l g ∧ i < List.length l) ∧ l = l ∧ some g = some g ∧ oDa l (List.length l) = oDa l (List.length l) ∧ itF l g = itF l g ∧ oOw l (List.length l) = oOw l (List.length l) ∧ imL l = imL l ∧ plF l g = plF l g ∧ loF l g = loF l g ∧ (↑i : Int) = (↑i : Int) ∧ l = l ∧ (↑(List.length l) : Int) = (↑(List.length l) : Int) ∧ (↑i : Int) = (↑i : Int) ∧ (List.getD l (Int.toNat (↑i : Int)) (RT.dflt RT.obj)).drels = (obN l i).drels ∧ (↑(List.length (List.getD l (Int.toNat (↑i : Int)) (RT.dflt RT.obj)).drels) : Int) = (↑(List.length (obN l i).drels) : Int) ∧ (0 : Int) = (↑(0 : Nat) : Int) ∧ (0 : Int) = (0 : Int) ∧ adrL l g (glG g mainT) = adrL l g (glG g mainT) ∧ (dtO l g i).fst ++ (List.getD l (Int.toNat (↑i : Int)) (RT.dflt RT.obj)).data = (dtJ l g i ((dtO l g i).fst ++ (obN l i).data, (dtO l g i).snd) (0 : Nat)).fst ∧ (dtO l g i).snd = (dtJ l g i ((dtO l g i).fst ++ (obN l i).data, (dtO l g i).snd) (0 : Nat)).snd) (i < List.length l ∧ True ∧ l = l ∧ some g = some g ∧ oDa l (List.length l) = oDa l (List.length l) ∧ itF l g = itF l g ∧ oOw l (List.length l) = oOw l (List.length l) ∧ imL l = imL l ∧ plF l g = plF l g ∧ loF l g = loF l g ∧ l = l ∧ (↑(List.length l) : Int) = (↑(List.length l) : Int) ∧ (↑i : Int) + (1 : Int) = (↑(i + (1 : Nat)) : Int) ∧ ((0 : Int) ≤ (↑(i + (1 : Nat)) : Int) ∧ (↑(i + (1 : Nat)) : Int) ≤ (1000000 : Int)) ∧ (0 : Int) = (0 : Int) ∧ adrL l g (glG g mainT) = adrL l g (glG g mainT) ∧ (dtO l g (i + (1 : Nat))).fst = (dtO l g (i + (1 : Nat))).fst ∧ (dtO l g (i + (1 : Nat))).snd = (dtO l g (i + (1 : Nat))).snd)))) (Nat.beq (0 : Nat) (0 : Nat) = true ∧ l = l ∧ some g = some g ∧ oDa l (List.length l) = oDa l (List.length l) ∧ itF l g = itF l g ∧ oOw l (List.length l) = oOw l (List.length l) ∧ imL l = imL l ∧ plF l g = plF l g ∧ loF l g = loF l g ∧ (0 : Int) = (0 : Int) ∧ adrL l g (glG g mainT) = adrL l g (glG g mainT) ∧ (dtO l g i).fst = (dtO l g (List.length l)).fst ∧ (dtO l g i).snd = (dtO l g (List.length l)).snd)) := by kernel_rfl
set_option maxHeartbeats 4000000 in
theorem limA (l : List Ob) (g : Glb) {W : World} {R own0 : Nat → Prop} {ρ0 : Nat → Option Value} (hown : HownOk (env (G7 ++ rest) [(41, kkreal), (38, kaddress), (42, kksym), (43, kput)]) own0 ρ0) : LOk Tryd.prog (env (G7 ++ rest) [(41, kkreal), (38, kaddress), (42, kksym), (43, kput)]) (ctx ea has) (G7 ++ rest) W R own0 ρ0 (loopN (bodyOf Tryd.f30) 0) (LimA l g) := by
  refine loop1_ok (J := fun _ => True) (N := l.length) (H := HimA l g) (X := XimA l g) (env_ok (con := [(41, kkreal), (38, kaddress), (42, kksym), (43, kput)]) ⟨ckreal, caddress, cksym, cput, trivial⟩) hown (ls := fun i => [(7, LimI l g i)]) (fun i => hl1 (by kernel_rfl) (by kernel_rfl) (limI l g i hown)) (fun hm i hi hj => ?_) 0 (fun hm => by first | exact Nat.zero_le _ | omega) (fun hm => trivial)
  rw [bimA rest l g i]
  delta RQ IT
  have K := hm
  have hf := K.nm.few
  simp only [Int.toNat_natCast, eq_self, true_and, and_true]
  refine ⟨fun h => ?_, fun h => ?_⟩
  · have h := of_decide_eq_true h
    have hlt : i < l.length := by omega
    have V := K.nm.val i hlt
    have hd := V.data
    have hO := dtO_len l g i
    have hdn := K.dn hlt
    exact ⟨by omega, fun _ => ⟨by show (dtO l g i).1.length + (obN l i).data.length ≤ _; omega, fun _ => ⟨⟨⟨K, hlt⟩, rfl, rfl, rfl⟩, fun _ => ⟨hlt, by omega, by omega⟩⟩⟩⟩
  · have h := of_decide_eq_false h
    have : i = l.length := by omega
    subst this
    exact ⟨rfl, rfl, rfl⟩
def HimJ (l : List Ob) (g : Glb) (ii : Nat) (i : Nat) : SState := { fr := [(0, lkW l g), (2, .ptr 0 0), (3, .ptr 1 0), (10, .own 4), (11, .int .i64 (.sym ii 0 1000000)), (95, .ro .obj l), (96, .int .i64 (.full l.length)), (97, .int .i64 (.sym ii 0 1000000)), (107, .ro .rel (obN l ii).crels), (108, .int .i64 (.full (obN l ii).crels.length)), (109, .int .i64 (.sym i 0 1000000))], hp := oiHp l g (dtO l g l.length) ++ [(4, some (.opn (.int .i64) .rel (rsU l ii) ii (.map 5))), (5, some (.gmap (.int .i64) .rel (rlP (obN l ii).crels i)))], next := 6, sz := 136 }
def XimJ (l : List Ob) (g : Glb) (ii : Nat) : SState := { fr := [(0, lkW l g), (2, .ptr 0 0), (3, .ptr 1 0), (10, .own 4), (95, .ro .obj l), (96, .int .i64 (.full l.length)), (97, .int .i64 (.sym ii 0 1000000))], hp := oiHp l g (dtO l g l.length) ++ [(4, some (.recs rlT (rsU l (ii + 1))))], next := 5, sz := 136 }
def LimJ (l : List Ob) (g : Glb) (ii : Nat) : LSum := ⟨HimJ l g ii 0, fun k => k (.exit 6) (XimJ l g ii), LkOk l g ∧ ii < l.length⟩
theorem bimJ (rest : List (Nat × SVal)) (l : List Ob) (g : Glb) (ii : Nat) (i : Nat) : (Tr.sat (rnd1 (env (G7 ++ rest) [(41, kkreal), (38, kaddress), (42, kksym), (43, kput)]) (fun _ => True) ((obN l ii).crels.length) (HimJ l g ii) 6 (XimJ l g ii) i) (run (env (G7 ++ rest) [(41, kkreal), (38, kaddress), (42, kksym), (43, kput)]) [] (loopN (loopN (bodyOf Tryd.f30) 1) 0) (HimJ l g ii i) .leaf)) = (
  IT (decide ((↑i : Int) < (↑(List.length (obN l ii).crels) : Int))) (RQ ((0 : Int) ≤ (↑i : Int) ∧ (↑i : Int) < (↑(List.length (obN l ii).crels) : Int)) (RQ ((0 : Int) ≤ (↑ii : Int) ∧ (↑ii : Int) < (↑(List.length (rsU l ii)) : Int)) (RQ ((↑ii : Int) = (↑ii : Int)) (i < List.length (obN l ii).crels ∧ True ∧ l = l ∧ some g = some g ∧ oDa l (List.length l) = oDa l (List.length l) ∧ itF l g = itF l g ∧ oOw l (List.length l) = oOw l (List.length l) ∧ imL l = imL l ∧ plF l g = plF l g ∧ loF l g = loF l g ∧ (↑ii : Int) = (↑ii : Int) ∧ l = l ∧ (↑(List.length l) : Int) = (↑(List.length l) : Int) ∧ (↑ii : Int) = (↑ii : Int) ∧ (obN l ii).crels = (obN l ii).crels ∧ (↑(List.length (obN l ii).crels) : Int) = (↑(List.length (obN l ii).crels) : Int) ∧ (↑i : Int) + (1 : Int) = (↑(i + (1 : Nat)) : Int) ∧ ((0 : Int) ≤ (↑(i + (1 : Nat)) : Int) ∧ (↑(i + (1 : Nat)) : Int) ≤ (1000000 : Int)) ∧ (0 : Int) = (0 : Int) ∧ adrL l g (glG g mainT) = adrL l g (glG g mainT) ∧ (dtO l g (List.length l)).fst = (dtO l g (List.length l)).fst ∧ (dtO l g (List.length l)).snd = (dtO l g (List.length l)).snd ∧ rsU l ii = rsU l ii ∧ (↑ii : Int) = (↑ii : Int) ∧ some (gPut (rlP (obN l ii).crels i) (List.getD (obN l ii).crels (Int.toNat (↑i : Int)) (RT.dflt RT.rel)).at_ (List.getD (obN l ii).crels (Int.toNat (↑i : Int)) (RT.dflt RT.rel))) = some (rlP (obN l ii).crels (i + (1 : Nat))))))) (Nat.beq (6 : Nat) (6 : Nat) = true ∧ l = l ∧ some g = some g ∧ oDa l (List.length l) = oDa l (List.length l) ∧ itF l g = itF l g ∧ oOw l (List.length l) = oOw l (List.length l) ∧ imL l = imL l ∧ plF l g = plF l g ∧ loF l g = loF l g ∧ l = l ∧ (↑(List.length l) : Int) = (↑(List.length l) : Int) ∧ (↑ii : Int) = (↑ii : Int) ∧ (0 : Int) = (0 : Int) ∧ adrL l g (glG g mainT) = adrL l g (glG g mainT) ∧ (dtO l g (List.length l)).fst = (dtO l g (List.length l)).fst ∧ (dtO l g (List.length l)).snd = (dtO l g (List.length l)).snd ∧ List.set (rsU l ii) (Int.toNat (↑ii : Int)) (some (rlP (obN l ii).crels i)) = rsU l (ii + (1 : Nat)))) := by kernel_rfl
set_option maxHeartbeats 4000000 in
theorem limJ (l : List Ob) (g : Glb) (ii : Nat) {W : World} {R own0 : Nat → Prop} {ρ0 : Nat → Option Value} (hown : HownOk (env (G7 ++ rest) [(41, kkreal), (38, kaddress), (42, kksym), (43, kput)]) own0 ρ0) : LOk Tryd.prog (env (G7 ++ rest) [(41, kkreal), (38, kaddress), (42, kksym), (43, kput)]) (ctx ea has) (G7 ++ rest) W R own0 ρ0 (loopN (loopN (bodyOf Tryd.f30) 1) 0) (LimJ l g ii) := by
  refine loop1_ok (J := fun _ => True) (N := (obN l ii).crels.length) (H := HimJ l g ii) (X := XimJ l g ii) (env_ok (con := [(41, kkreal), (38, kaddress), (42, kksym), (43, kput)]) ⟨ckreal, caddress, cksym, cput, trivial⟩) hown (ls := fun i => []) (fun i => noSums (by kernel_rfl)) (fun hm i hi hj => ?_) 0 (fun hm => by first | exact Nat.zero_le _ | omega) (fun hm => trivial)
  rw [bimJ rest l g ii i]
  delta RQ IT
  obtain ⟨K, hii⟩ := hm
  have hcr := (K.nm.val ii hii).crels
  have hrs := rsU_len l ii
  simp only [Int.toNat_natCast, eq_self, true_and, and_true]
  refine ⟨fun h => ?_, fun h => ?_⟩
  · have h := of_decide_eq_true h
    have hlt : i < (obN l ii).crels.length := by omega
    exact ⟨by omega, fun _ => ⟨by omega, fun _ _ => ⟨hlt, by omega, by omega, rfl⟩⟩⟩
  · have h := of_decide_eq_false h
    have : i = (obN l ii).crels.length := by omega
    subst this
    exact ⟨rfl, rfl⟩
def HimB (l : List Ob) (g : Glb) (i : Nat) : SState := { fr := [(0, lkW l g), (2, .ptr 0 0), (3, .ptr 1 0), (10, .own 4), (95, .ro .obj l), (96, .int .i64 (.full l.length)), (97, .int .i64 (.sym i 0 1000000))], hp := oiHp l g (dtO l g l.length) ++ [(4, some (.recs rlT (rsU l i)))], next := 5, sz := 136 }
def XimB (l : List Ob) (g : Glb) : SState := { fr := [(0, lkW l g), (2, .ptr 0 0), (3, .ptr 1 0), (10, .own 4)], hp := oiHp l g (dtO l g l.length) ++ [(4, some (.recs rlT (rsL l)))], next := 5, sz := 136 }
def LimB (l : List Ob) (g : Glb) : LSum := ⟨HimB l g 0, fun k => k (.exit 4) (XimB l g), LkOk l g⟩
theorem bimB (rest : List (Nat × SVal)) (l : List Ob) (g : Glb) (i : Nat) : (Tr.sat (rnd1 (env (G7 ++ rest) [(41, kkreal), (38, kaddress), (42, kksym), (43, kput)]) (fun _ => True) (l.length) (HimB l g) 4 (XimB l g) i) (run (env (G7 ++ rest) [(41, kkreal), (38, kaddress), (42, kksym), (43, kput)]) [(22, LimJ l g i)] (loopN (bodyOf Tryd.f30) 1) (HimB l g i) .leaf)) = (
  IT (decide ((↑i : Int) < (↑(List.length l) : Int))) (RQ ((0 : Int) ≤ (↑i : Int) ∧ (↑i : Int) < (↑(List.length l) : Int)) (RQ ((0 : Int) ≤ (↑i : Int) ∧ (↑i : Int) < (↑(List.length (rsU l i)) : Int)) (RQ ((LkOk l g ∧ i < List.length l) ∧ l = l ∧ some g = some g ∧ oDa l (List.length l) = oDa l (List.length l) ∧ itF l g = itF l g ∧ oOw l (List.length l) = oOw l (List.length l) ∧ imL l = imL l ∧ plF l g = plF l g ∧ loF l g = loF l g ∧ (↑i : Int) = (↑i : Int) ∧ l = l ∧ (↑(List.length l) : Int) = (↑(List.length l) : Int) ∧ (↑i : Int) = (↑i : Int) ∧ (List.getD l (Int.toNat (↑i : Int)) (RT.dflt RT.obj)).crels = (obN l i).crels ∧ (↑(List.length (List.getD l (Int.toNat (↑i : Int)) (RT.dflt RT.obj)).crels) : Int) = (↑(List.length (obN l i).crels) : Int) ∧ (0 : Int) = (↑(0 : Nat) : Int) ∧ (0 : Int) = (0 : Int) ∧ adrL l g (glG g mainT) = adrL l g (glG g mainT) ∧ (dtO l g (List.length l)).fst = (dtO l g (List.length l)).fst ∧ (dtO l g (List.length l)).snd = (dtO l g (List.length l)).snd ∧ rsU l i = rsU l i ∧ (↑i : Int) = (↑i : Int) ∧ some (@List.nil (FK.ty (FK.int IntKind.i64) × RT.ty RT.rel)) = some (rlP (obN l i).crels (0 : Nat))) (i < List.length l ∧ True ∧ l = l ∧ some g = some g ∧ oDa l (List.length l) = oDa l (List.length l) ∧ itF l g = itF l g ∧ oOw l (List.length l) = oOw l (List.length l) ∧ imL l = imL l ∧ plF l g = plF l g ∧ loF l g = loF l g ∧ l = l ∧ (↑(List.length l) : Int) = (↑(List.length l) : Int) ∧ (↑i : Int) + (1 : Int) = (↑(i + (1 : Nat)) : Int) ∧ ((0 : Int) ≤ (↑(i + (1 : Nat)) : Int) ∧ (↑(i + (1 : Nat)) : Int) ≤ (1000000 : Int)) ∧ (0 : Int) = (0 : Int) ∧ adrL l g (glG g mainT) = adrL l g (glG g mainT) ∧ (dtO l g (List.length l)).fst = (dtO l g (List.length l)).fst ∧ (dtO l g (List.length l)).snd = (dtO l g (List.length l)).snd ∧ rsU l (i + (1 : Nat)) = rsU l (i + (1 : Nat)))))) (Nat.beq (4 : Nat) (4 : Nat) = true ∧ l = l ∧ some g = some g ∧ oDa l (List.length l) = oDa l (List.length l) ∧ itF l g = itF l g ∧ oOw l (List.length l) = oOw l (List.length l) ∧ imL l = imL l ∧ plF l g = plF l g ∧ loF l g = loF l g ∧ (0 : Int) = (0 : Int) ∧ adrL l g (glG g mainT) = adrL l g (glG g mainT) ∧ (dtO l g (List.length l)).fst = (dtO l g (List.length l)).fst ∧ (dtO l g (List.length l)).snd = (dtO l g (List.length l)).snd ∧ rsU l i = rsL l)) := by kernel_rfl
set_option maxHeartbeats 4000000 in
theorem limB (l : List Ob) (g : Glb) {W : World} {R own0 : Nat → Prop} {ρ0 : Nat → Option Value} (hown : HownOk (env (G7 ++ rest) [(41, kkreal), (38, kaddress), (42, kksym), (43, kput)]) own0 ρ0) : LOk Tryd.prog (env (G7 ++ rest) [(41, kkreal), (38, kaddress), (42, kksym), (43, kput)]) (ctx ea has) (G7 ++ rest) W R own0 ρ0 (loopN (bodyOf Tryd.f30) 1) (LimB l g) := by
  refine loop1_ok (J := fun _ => True) (N := l.length) (H := HimB l g) (X := XimB l g) (env_ok (con := [(41, kkreal), (38, kaddress), (42, kksym), (43, kput)]) ⟨ckreal, caddress, cksym, cput, trivial⟩) hown (ls := fun i => [(22, LimJ l g i)]) (fun i => hl1 (by kernel_rfl) (by kernel_rfl) (limJ l g i hown)) (fun hm i hi hj => ?_) 0 (fun hm => by first | exact Nat.zero_le _ | omega) (fun hm => trivial)
  rw [bimB rest l g i]
  delta RQ IT
  have K := hm
  have hf := K.nm.few
  have hrs := rsU_len l i
  simp only [Int.toNat_natCast, eq_self, true_and, and_true]
  refine ⟨fun h => ?_, fun h => ?_⟩
  · have h := of_decide_eq_true h
    have hlt : i < l.length := by omega
    exact ⟨by omega, fun _ => ⟨by omega, fun _ => ⟨⟨⟨K, hlt⟩, rfl, rfl⟩, fun _ => ⟨hlt, by omega, by omega⟩⟩⟩⟩
  · have h := of_decide_eq_false h
    have : i = l.length := by omega
    subst this
    exact ⟨rfl, rfl⟩
abbrev piHp (x : Img) : List (Nat × Option Cont) := [(0, zCell), (1, some (.cells [.int .u32 (.full x.entry), .own 2, .own 3, .own 4, .own 5, .own 6])), (2, some (.recs .u32 x.data)), (3, some (.recs .u32 x.code)), (4, some (.recs .i64 x.drefs)), (5, some (.recs .i64 x.places)), (6, some (.recs .i64 x.starts))]
def HimP (l : List Ob) (g : Glb) (i : Nat) : SState := { fr := [(0, lkW l g), (2, .ptr 0 0), (3, .ptr 1 0), (10, .ro rlT (rsL l)), (126, .int .i64 (.full (itF l g).length)), (127, .int .i64 (.sym i 0 1000000))], hp := piHp (ptN l g i), next := 7, sz := 136 }
def XimP (l : List Ob) (g : Glb) : SState := { fr := [(2, .ptr 0 0), (3, .ptr 1 0)], hp := piHp (ptN l g (itF l g).length), next := 7, sz := 136 }
def LimP (l : List Ob) (g : Glb) : LSum := ⟨HimP l g 0, fun k => k (.exit 8) (XimP l g), LkOk l g⟩
theorem bimP (rest : List (Nat × SVal)) (l : List Ob) (g : Glb) (i : Nat) : (Tr.sat (rnd1 (env (G7 ++ rest) [(41, kkreal), (38, kaddress), (42, kksym), (43, kput)]) (fun _ => True) ((itF l g).length) (HimP l g) 8 (XimP l g) i) (run (env (G7 ++ rest) [(41, kkreal), (38, kaddress), (42, kksym), (43, kput)]) [] (loopN (bodyOf Tryd.f30) 2) (HimP l g i) .leaf)) = (
  IT (decide ((↑i : Int) < (↑(List.length (itF l g)) : Int))) (RQ (LkV l g (oDa l (List.length l)) (itF l g) (oOw l (List.length l)) (imL l) (plF l g) (loF l g) ∧ rsL l = rsL l ∧ List.length (ptN l g i).code ≤ (9000 : Nat) ∧ List.length (ptN l g i).places ≤ (9000 : Nat) ∧ List.length (ptN l g i).starts ≤ (9000 : Nat) ∧ (0 : Int) ≤ (↑i : Int) ∧ (↑i : Int) < (↑(List.length (itF l g)) : Int)) (i < List.length (itF l g) ∧ True ∧ l = l ∧ some g = some g ∧ oDa l (List.length l) = oDa l (List.length l) ∧ itF l g = itF l g ∧ oOw l (List.length l) = oOw l (List.length l) ∧ imL l = imL l ∧ plF l g = plF l g ∧ loF l g = loF l g ∧ rsL l = rsL l ∧ (↑(List.length (itF l g)) : Int) = (↑(List.length (itF l g)) : Int) ∧ (↑i : Int) + (1 : Int) = (↑(i + (1 : Nat)) : Int) ∧ ((0 : Int) ≤ (↑(i + (1 : Nat)) : Int) ∧ (↑(i + (1 : Nat)) : Int) ≤ (1000000 : Int)) ∧ (0 : Int) = (0 : Int) ∧ (ptM l g (Int.toNat (↑i : Int)) (ptN l g i)).entry = (ptN l g (i + (1 : Nat))).entry ∧ (ptM l g (Int.toNat (↑i : Int)) (ptN l g i)).data = (ptN l g (i + (1 : Nat))).data ∧ (ptM l g (Int.toNat (↑i : Int)) (ptN l g i)).code = (ptN l g (i + (1 : Nat))).code ∧ (ptM l g (Int.toNat (↑i : Int)) (ptN l g i)).drefs = (ptN l g (i + (1 : Nat))).drefs ∧ (ptM l g (Int.toNat (↑i : Int)) (ptN l g i)).places = (ptN l g (i + (1 : Nat))).places ∧ (ptM l g (Int.toNat (↑i : Int)) (ptN l g i)).starts = (ptN l g (i + (1 : Nat))).starts)) (Nat.beq (8 : Nat) (8 : Nat) = true ∧ (0 : Int) = (0 : Int) ∧ (ptN l g i).entry = (ptN l g (List.length (itF l g))).entry ∧ (ptN l g i).data = (ptN l g (List.length (itF l g))).data ∧ (ptN l g i).code = (ptN l g (List.length (itF l g))).code ∧ (ptN l g i).drefs = (ptN l g (List.length (itF l g))).drefs ∧ (ptN l g i).places = (ptN l g (List.length (itF l g))).places ∧ (ptN l g i).starts = (ptN l g (List.length (itF l g))).starts)) := by kernel_rfl
set_option maxHeartbeats 4000000 in
theorem limP (l : List Ob) (g : Glb) {W : World} {R own0 : Nat → Prop} {ρ0 : Nat → Option Value} (hown : HownOk (env (G7 ++ rest) [(41, kkreal), (38, kaddress), (42, kksym), (43, kput)]) own0 ρ0) : LOk Tryd.prog (env (G7 ++ rest) [(41, kkreal), (38, kaddress), (42, kksym), (43, kput)]) (ctx ea has) (G7 ++ rest) W R own0 ρ0 (loopN (bodyOf Tryd.f30) 2) (LimP l g) := by
  refine loop1_ok (J := fun _ => True) (N := (itF l g).length) (H := HimP l g) (X := XimP l g) (env_ok (con := [(41, kkreal), (38, kaddress), (42, kksym), (43, kput)]) ⟨ckreal, caddress, cksym, cput, trivial⟩) hown (ls := fun i => []) (fun i => noSums (by kernel_rfl)) (fun hm i hi hj => ?_) 0 (fun hm => by first | exact Nat.zero_le _ | omega) (fun hm => trivial)
  rw [bimP rest l g i]
  delta RQ IT
  have K := hm
  have hb := K.bs
  have L := ptN_len l g i
  simp only [Int.toNat_natCast, eq_self, true_and, and_true]
  refine ⟨fun h => ?_, fun h => ?_⟩
  · have h := of_decide_eq_true h
    have hlt : i < (itF l g).length := by omega
    exact ⟨⟨⟨K, rfl, rfl, rfl, rfl, rfl, rfl⟩, by omega, by omega, by omega, by omega, by omega⟩, fun _ => ⟨hlt, by omega, by omega, rfl, rfl, rfl, rfl, rfl, rfl⟩⟩
  · have h := of_decide_eq_false h
    have : i = (itF l g).length := by omega
    rw [this]
    exact ⟨rfl, rfl, rfl, rfl, rfl, rfl, rfl⟩
def kimage : List SVal → Nat → Acc ORes := fun a n => match a with | [.rop [.ro .obj l, .rom .str (.flat (.int .i64) [.int .i64]) (some g), .ro .i64 da, .ro (.flat (.int .i64) [.int .i64, .bool]) its, .ro (.flat (.int .i64) [.int .i64]) ow, .ro (.fmap (.int .i64) .i64) im, .ro .i64 pl, .ro .bool lo]] => .ret ({ v := .agg [.int .u32 (.full (imgM l g).entry), .ro .u32 (imgM l g).data, .ro .u32 (imgM l g).code, .ro .i64 (imgM l g).drefs, .ro .i64 (imgM l g).places, .ro .i64 (imgM l g).starts], vc := some (LkV l g da its ow im pl lo ∧ noMain l g = false) }) | _ => .fail "image"
theorem argimage (l : List Ob) (g : Glb) (da : List Int) (its : List itT.ty) (ow : List (Int × Int)) (im : List (Option Mp)) (pl : List Int) (lo : List Bool) : (all (subL tAtN none' [] deep [.rop [.ro .obj l, .rom .str (.flat (.int .i64) [.int .i64]) (some g), .ro .i64 da, .ro (.flat (.int .i64) [.int .i64, .bool]) its, .ro (.flat (.int .i64) [.int .i64]) ow, .ro (.fmap (.int .i64) .i64) im, .ro .i64 pl, .ro .bool lo]] [lkV l g da its ow im pl lo])) = (
  l = l ∧ some g = some g ∧ da = da ∧ its = its ∧ ow = ow ∧ im = im ∧ pl = pl ∧ lo = lo) := by kernel_rfl
theorem runimage (rest : List (Nat × SVal)) (l : List Ob) (g : Glb) (da : List Int) (its : List itT.ty) (ow : List (Int × Int)) (im : List (Option Mp)) (pl : List Int) (lo : List Bool) : (Tr.sat (plainQ (.agg [.int .u32 (.full (imgM l g).entry), .ro .u32 (imgM l g).data, .ro .u32 (imgM l g).code, .ro .i64 (imgM l g).drefs, .ro .i64 (imgM l g).places, .ro .i64 (imgM l g).starts])) (run (env (G7 ++ rest) [(41, kkreal), (38, kaddress), (42, kksym), (43, kput)]) [(3, LimA l g), (18, LimB l g), (28, LimP l g)] (bodyOf Tryd.f30) (start [lkV l g da its ow im pl lo] 136) (ends (env (G7 ++ rest) [(41, kkreal), (38, kaddress), (42, kksym), (43, kput)]) Tryd.f30.results.toList))) = (
  RQ (LkV l g da its ow im pl lo ∧ Own l ((gGet (RT.dflt (RT.flat (FK.int IntKind.i64) [FK.int IntKind.i64])) (Option.getD (some g) (@List.nil (FK.ty FK.str × RT.ty spT))) (ByteArray.mk #[(109 : UInt8), (97 : UInt8), (105 : UInt8), (110 : UInt8)])).fst, (gGet (RT.dflt (RT.flat (FK.int IntKind.i64) [FK.int IntKind.i64])) (Option.getD (some g) (@List.nil (FK.ty FK.str × RT.ty spT))) (ByteArray.mk #[(109 : UInt8), (97 : UInt8), (105 : UInt8), (110 : UInt8)])).snd)) (RQ (LkOk l g ∧ l = l ∧ some g = some g ∧ da = oDa l (List.length l) ∧ its = itF l g ∧ ow = oOw l (List.length l) ∧ im = imL l ∧ pl = plF l g ∧ lo = loF l g ∧ l = l ∧ (↑(List.length l) : Int) = (↑(List.length l) : Int) ∧ (0 : Int) = (↑(0 : Nat) : Int) ∧ (0 : Int) = (0 : Int) ∧ adrL l g ((gGet (RT.dflt (RT.flat (FK.int IntKind.i64) [FK.int IntKind.i64])) (Option.getD (some g) (@List.nil (FK.ty FK.str × RT.ty spT))) (ByteArray.mk #[(109 : UInt8), (97 : UInt8), (105 : UInt8), (110 : UInt8)])).fst, (gGet (RT.dflt (RT.flat (FK.int IntKind.i64) [FK.int IntKind.i64])) (Option.getD (some g) (@List.nil (FK.ty FK.str × RT.ty spT))) (ByteArray.mk #[(109 : UInt8), (97 : UInt8), (105 : UInt8), (110 : UInt8)])).snd) = adrL l g (glG g mainT) ∧ (dtO l g (0 : Nat)).fst = @List.nil (RT.ty RT.u32) ∧ (dtO l g (0 : Nat)).snd = @List.nil (RT.ty RT.i64)) (RQ ((0 : Int) ≤ (↑(List.length l) : Int) ∧ (↑(List.length l) : Int) ≤ (↑(List.length l) : Int) ∧ (↑(List.length l) : Int) ≤ (137438953472 : Int)) (RQ (LkOk l g ∧ l = l ∧ some g = some g ∧ oDa l (List.length l) = oDa l (List.length l) ∧ itF l g = itF l g ∧ oOw l (List.length l) = oOw l (List.length l) ∧ imL l = imL l ∧ plF l g = plF l g ∧ loF l g = loF l g ∧ l = l ∧ (↑(List.length l) : Int) = (↑(List.length l) : Int) ∧ (0 : Int) = (↑(0 : Nat) : Int) ∧ (0 : Int) = (0 : Int) ∧ adrL l g (glG g mainT) = adrL l g (glG g mainT) ∧ (dtO l g (List.length l)).fst = (dtO l g (List.length l)).fst ∧ (dtO l g (List.length l)).snd = (dtO l g (List.length l)).snd ∧ List.replicate (Int.toNat (↑(List.length l) : Int)) (RT.dflt (RT.fmap (FK.int IntKind.i64) RT.rel)) = rsU l (0 : Nat)) (RQ (LkOk l g ∧ l = l ∧ some g = some g ∧ oDa l (List.length l) = oDa l (List.length l) ∧ itF l g = itF l g ∧ oOw l (List.length l) = oOw l (List.length l) ∧ imL l = imL l ∧ plF l g = plF l g ∧ loF l g = loF l g ∧ rsL l = rsL l ∧ (↑(List.length (itF l g)) : Int) = (↑(List.length (itF l g)) : Int) ∧ (0 : Int) = (↑(0 : Nat) : Int) ∧ (0 : Int) = (0 : Int) ∧ adrL l g (glG g mainT) = (ptN l g (0 : Nat)).entry ∧ (dtO l g (List.length l)).fst = (ptN l g (0 : Nat)).data ∧ (ptN l g (0 : Nat)).code = @List.nil (RT.ty RT.u32) ∧ (dtO l g (List.length l)).snd = (ptN l g (0 : Nat)).drefs ∧ (ptN l g (0 : Nat)).places = @List.nil (RT.ty RT.i64) ∧ (ptN l g (0 : Nat)).starts = @List.nil (RT.ty RT.i64)) ((ptN l g (List.length (itF l g))).entry = (imgM l g).entry ∧ (ptN l g (List.length (itF l g))).data = (imgM l g).data ∧ (ptN l g (List.length (itF l g))).code = (imgM l g).code ∧ (ptN l g (List.length (itF l g))).drefs = (imgM l g).drefs ∧ (ptN l g (List.length (itF l g))).places = (imgM l g).places ∧ (ptN l g (List.length (itF l g))).starts = (imgM l g).starts)))))) := by kernel_rfl
set_option maxHeartbeats 4000000 in
theorem cimage : Con ea has (G7 ++ rest) 30 kimage := by
  refine plain_mkB Tryd.func30 136 (con := [(41, kkreal), (38, kaddress), (42, kksym), (43, kput)]) ⟨ckreal, caddress, cksym, cput, trivial⟩ (fun hA hr hv => ?_) (by kernel_rfl) (by kernel_rfl) Tryd.ntmps30
  unfold kimage at hr; split at hr
  · rename_i l g da its ow im pl lo
    have := ret_ok hr; subst this
    replace hv := hv _ rfl
    refine ⟨_, [(3, LimA l g), (18, LimB l g), (28, LimP l g)], rfl, rfl, .of (argimage l g da its ow im pl lo) (by simp), rfl, (fun W R ρ0 own0 hown => hl3 (by kernel_rfl) (by kernel_rfl) (limA l g hown) (by kernel_rfl) (limB l g hown) (by kernel_rfl) (limP l g hown)), .of (runimage rest l g da its ow im pl lo) ?_⟩
    delta RQ
    clear hr
    clear hA
    obtain ⟨V, hmn⟩ := hv
    have V' := V
    obtain ⟨K, rfl, rfl, rfl, rfl, rfl, rfl⟩ := V
    have hf := K.nm.few
    simp only [Int.toNat_natCast, eq_self, true_and, and_true]
    refine ⟨⟨V', (main_own K.nm hmn).2.1⟩, fun _ => ⟨⟨K, rfl, rfl, rfl, rfl⟩, fun _ => ⟨by omega, fun _ => ⟨⟨K, rfl, rfl⟩, fun _ => ⟨⟨K, rfl, rfl, rfl, rfl, rfl, rfl, rfl⟩, fun _ => ⟨rfl, rfl, rfl, rfl, rfl, rfl⟩⟩⟩⟩⟩⟩
  · cases hr
abbrev kimageO := unO kimage
theorem cimageO : Con ea has (G7 ++ rest) 30 kimageO := unO_ok cimage
def klaid : List SVal → Nat → Acc ORes := fun a n => match a with | [.ro .obj l] => .ret ({ v := .tuple [.ropO (laidB l) [.ro .obj l, .rom .str spT (some (nmG l)), .ro .i64 (oDa l l.length), .ro itT (itF l (nmG l)), .ro spT (oOw l l.length), .ro imT (imL l), .ro .i64 (plLk l (nmG l)), .ro .bool (loL l (nmG l))], .err (laidE l)] }) | _ => .fail "laid"
theorem arglaid (l : List Ob) : (all (subL tAtN none' [] deep [.ro .obj l] [.ro .obj l])) = (
  l = l) := by kernel_rfl
theorem runlaid (rest : List (Nat × SVal)) (l : List Ob) : (Tr.sat (plainQ (.tuple [.ropO (laidB l) [.ro .obj l, .rom .str spT (some (nmG l)), .ro .i64 (oDa l l.length), .ro itT (itF l (nmG l)), .ro spT (oOw l l.length), .ro imT (imL l), .ro .i64 (plLk l (nmG l)), .ro .bool (loL l (nmG l))], .err (laidE l)])) (run (env (G7 ++ rest) [(39, knames), (40, klay)]) [] (bodyOf Tryd.f29) (start [.ro .obj l] 25) (ends (env (G7 ++ rest) [(39, knames), (40, klay)]) Tryd.f29.results.toList))) = (
  IT (decide ((16 : Int) < (↑(List.length l) : Int))) (laidB l = false ∧ FErr.bare (104 : Int) = laidE l) (RQ (List.length l ≤ (16 : Nat)) (IT (!!FErr.isErr (namesE l)) (laidB l = false ∧ namesE l = laidE l) (RQ (NmG l (nmG l)) (IT (!!FErr.isErr (layE l (nmG l))) (laidB l = false ∧ layE l (nmG l) = laidE l) (laidB l = true ∧ l = l ∧ some (nmG l) = some (nmG l) ∧ oDa l (List.length l) = oDa l (List.length l) ∧ itF l (nmG l) = itF l (nmG l) ∧ oOw l (List.length l) = oOw l (List.length l) ∧ imL l = imL l ∧ plLk l (nmG l) = plLk l (nmG l) ∧ loL l (nmG l) = loL l (nmG l) ∧ FErr.fine = laidE l)))))) := by kernel_rfl
set_option maxHeartbeats 4000000 in
theorem claid : Con ea has (G7 ++ rest) 29 klaid := by
  refine plain_mkB Tryd.func29 25 (con := [(39, knames), (40, klay)]) ⟨cnames, clay, trivial⟩ (fun hA hr hv => ?_) (by kernel_rfl) (by kernel_rfl) Tryd.ntmps29
  unfold klaid at hr; split at hr
  · rename_i l
    have := ret_ok hr; subst this
    refine ⟨_, [], rfl, rfl, .of (arglaid l) (by simp), rfl, (fun W R ρ0 own0 hown => noSums (by kernel_rfl)), .of (runlaid rest l) ?_⟩
    delta RQ IT
    clear hr
    clear hA hv
    have hE : laidE l = _ := laidE.eq_1 l
    have hB : laidB l = !(laidE l).isErr := rfl
    simp only [eq_self, true_and, and_true]
    refine ⟨fun h => ?_, fun h => ⟨by have := of_decide_eq_false h; omega, fun _ => ⟨fun h2 => ?_, fun h2 => ?_⟩⟩⟩
    · rw [if_pos (by have := of_decide_eq_true h; omega)] at hE
      rw [hB, hE]; exact ⟨rfl, rfl⟩
    · rw [if_neg (by have := of_decide_eq_false h; omega)] at hE
      have h2 : (namesE l).isErr = true := by simpa using h2
      rw [if_pos h2] at hE
      rw [hB, hE, h2]; exact ⟨rfl, rfl⟩
    · have h1 : l.length ≤ 16 := by have := of_decide_eq_false h; omega
      rw [if_neg (by omega)] at hE
      have h2 : (namesE l).isErr = false := by simpa using h2
      rw [if_neg (by rw [h2]; simp)] at hE
      have G := (names_ok h1 h2).1
      refine ⟨G, fun _ => ⟨fun h3 => ?_, fun h3 => ?_⟩⟩
      · have h3 : (layE l (nmG l)).isErr = true := by simpa using h3
        rw [hB, hE, h3]; exact ⟨rfl, rfl⟩
      · have h3 : (layE l (nmG l)).isErr = false := by simpa using h3
        rw [hB, hE, h3]; exact ⟨rfl, (fine_of h3).symm⟩
  · cases hr
abbrev imgV (x : Img) : List SVal := [.int .u32 (.full x.entry), .ro .u32 x.data, .ro .u32 x.code, .ro .i64 x.drefs, .ro .i64 x.places, .ro .i64 x.starts]
def kLinkC : List SVal → Nat → Acc ORes := fun a n => match a with | [.ro .obj l] => .ret ({ v := .tuple [.agg (imgV (linkI l)), .err (laidE l)] }) | _ => .fail "LinkC"
theorem argLinkC (l : List Ob) : (all (subL tAtN none' [] deep [.ro .obj l] [.ro .obj l])) = (
  l = l) := by kernel_rfl
theorem runLinkC (rest : List (Nat × SVal)) (l : List Ob) : (Tr.sat (plainQ (.tuple [.agg (imgV (linkI l)), .err (laidE l)])) (run (env (G7 ++ rest) [(29, klaid), (30, kimageO)]) [] (bodyOf Tryd.f10) (start [.ro .obj l] 17) (ends (env (G7 ++ rest) [(29, klaid), (30, kimageO)]) Tryd.f10.results.toList))) = (
  IT (!!FErr.isErr (laidE l)) ((0 : Int) = (linkI l).entry ∧ (linkI l).data = @List.nil (RT.ty RT.u32) ∧ (linkI l).code = @List.nil (RT.ty RT.u32) ∧ (linkI l).drefs = @List.nil (RT.ty RT.i64) ∧ (linkI l).places = @List.nil (RT.ty RT.i64) ∧ (linkI l).starts = @List.nil (RT.ty RT.i64) ∧ laidE l = laidE l) (RQ (laidB l = true ∧ opP (some (LkV l (nmG l) (oDa l (List.length l)) (itF l (nmG l)) (oOw l (List.length l)) (imL l) (plLk l (nmG l)) (loL l (nmG l)) ∧ noMain l (nmG l) = false))) ((imgM l (nmG l)).entry = (linkI l).entry ∧ (imgM l (nmG l)).data = (linkI l).data ∧ (imgM l (nmG l)).code = (linkI l).code ∧ (imgM l (nmG l)).drefs = (linkI l).drefs ∧ (imgM l (nmG l)).places = (linkI l).places ∧ (imgM l (nmG l)).starts = (linkI l).starts ∧ FErr.fine = laidE l))) := by kernel_rfl
set_option maxHeartbeats 4000000 in
theorem cLinkC : Con ea has (G7 ++ rest) 10 kLinkC := by
  refine plain_mkB Tryd.func10 17 (con := [(29, klaid), (30, kimageO)]) ⟨claid, cimageO, trivial⟩ (fun hA hr hv => ?_) (by kernel_rfl) (by kernel_rfl) Tryd.ntmps10
  unfold kLinkC at hr; split at hr
  · rename_i l
    have := ret_ok hr; subst this
    refine ⟨_, [], rfl, rfl, .of (argLinkC l) (by simp), rfl, (fun W R ρ0 own0 hown => noSums (by kernel_rfl)), .of (runLinkC rest l) ?_⟩
    delta RQ IT
    clear hr
    clear hA hv
    have hL : linkI l = _ := linkI.eq_1 l
    simp only [eq_self, true_and, and_true]
    refine ⟨fun h => ?_, fun h => ?_⟩
    · have h : (laidE l).isErr = true := by simpa using h
      rw [if_pos h] at hL
      rw [hL]; exact ⟨rfl, rfl, rfl, rfl, rfl, rfl⟩
    · have h : (laidE l).isErr = false := by simpa using h
      rw [if_neg (by rw [h]; simp)] at hL
      obtain ⟨K, _, hmn⟩ := laid_ok h
      rw [hL]
      exact ⟨⟨by unfold laidB; rw [h]; rfl, ⟨⟨K, rfl, rfl, rfl, rfl, K.pl, K.lo⟩, hmn⟩⟩, fun _ => ⟨rfl, rfl, rfl, rfl, rfl, rfl, (fine_of h).symm⟩⟩
  · cases hr
end
end Go.Proofs.YtacmmedhjebfjaaDoor
set_option linter.unusedVariables false
set_option linter.unusedSimpArgs false
set_option linter.unusedSectionVars false
namespace Go.Proofs.YtacmmedhjebfjaaDoor
open Go.RowKit Go.Sy Go.Fac
section
variable {ea : Ear} {has : Int → Prop} {rest : List (Nat × SVal)} [ht : Nonempty (EType ea)]
end
end Go.Proofs.YtacmmedhjebfjaaDoor
set_option linter.unusedVariables false
set_option linter.unusedSimpArgs false
namespace Go.Proofs.YtacmmedhjebfjaaDoor
open Go.RowKit Go.Sy Go.Fac
theorem rlxN_br (its : List itT.ty) : ∀ k j, (rlxN its k).getD j false = true → itB its j = true
  | 0, j, h => by
    rw [rlxN, List.getD_eq_getElem?_getD, List.getElem?_replicate] at h
    split at h <;> cases h
  | k + 1, j, h => by
    by_cases hj : j < its.length
    · rw [rlxN, rndU_at its _ (rlxN_len its k) j hj _ hj, Bool.or_eq_true] at h
      rcases h with h | h
      · exact rlxN_br its k j h
      · unfold goesL at h; simp only [Bool.and_eq_true] at h; exact h.1.1
    · rw [getD_none _ _ (by rw [rlxN_len]; omega)] at h; cases h
theorem lo_br {l : List Ob} {g : Glb} {n : Nat} (h : (loF l g).getD n false = true) : itB (itF l g) n = true := rlxN_br _ _ _ h
theorem short_two {op : Int} (h : shortM op = true) : isaTwo op = false := by
  rcases short_op h with h | h | h <;> rw [h] <;> rfl
theorem ItAt.one {l : List Ob} {g : Glb} (G : NmG l g) {n o w : Nat} (I : ItAt l n o w) (hb : itB (itF l g) n = true) : itS (itF l g) n = 1 := by
  obtain ⟨k, _, _, _, _, _, _, k7, k8⟩ := I.br G hb
  rw [(I.words G).1]
  unfold szW twoB
  rw [k7, short_two k8]; rfl
def ckS (l : List Ob) (n : Nat) (p : Int) : List Int := if (obN l (itO l n).1.toNat).map.getD (itO l n).2.toNat 0 = 1 then [p] else []
def wdL (l : List Ob) (g : Glb) (o a : Int) : Nat → List Int
  | 0 => []
  | i + 1 => wdL l g o a i ++ [wdV l g o (a + i)]
def wdP (l : List Ob) (g : Glb) (o a : Int) (p : Int) : Nat → List Int
  | 0 => []
  | i + 1 => wdP l g o a p i ++ if wdC l g o (a + i) = true then [p + i] else []
def ckC (l : List Ob) (g : Glb) (n : Nat) : List Int :=
  if itB (itF l g) n = false then wdL l g (itO l n).1 (itO l n).2 (itS (itF l g) n).toNat
  else if (loF l g).getD n false = true then [wordW ((itI l n).op - 16 + 19) (itI l n).a (itI l n).b 0 (adrL l g (itTo l g n)), adrL l g (itTo l g n)]
  else [wordW (itI l n).op (itI l n).a (itI l n).b (disp8 (plN l g (itG (itF l g) n).toNat - plN l g n)) (itI l n).imm]
def ckP (l : List Ob) (g : Glb) (n : Nat) (p : Int) : List Int :=
  if itB (itF l g) n = false then wdP l g (itO l n).1 (itO l n).2 p (itS (itF l g) n).toNat
  else if (loF l g).getD n false = true then [p + 1] else []
theorem wdL_len (l : List Ob) (g : Glb) (o a : Int) : ∀ i, (wdL l g o a i).length = i
  | 0 => rfl
  | i + 1 => by rw [wdL, List.length_append, wdL_len l g o a i]; rfl
theorem wdN_eq (l : List Ob) (g : Glb) (o a : Int) (x : Img) : ∀ i, wdN l g o a x i = { x with code := x.code ++ wdL l g o a i, places := x.places ++ wdP l g o a x.code.length i }
  | 0 => by simp [wdN, wdL, wdP]
  | i + 1 => by
    rw [wdN, wdN_eq l g o a x i, wdM, wdL, wdP]
    simp only [Img.mk.injEq, true_and, and_true]
    refine ⟨List.append_assoc _ _ _, ?_⟩
    split
    · simp only [List.length_append, wdL_len]
      rw [List.append_assoc]; congr 2
    · rw [List.append_nil]
theorem ptM_eq (l : List Ob) (g : Glb) (n : Nat) (x : Img) : ptM l g n x = { x with code := x.code ++ ckC l g n, places := x.places ++ ckP l g n x.code.length, starts := x.starts ++ ckS l n x.code.length } := by
  have hS : ptS l n x = { x with starts := x.starts ++ ckS l n x.code.length } := by
    unfold ptS ckS; split
    · rfl
    · simp
  unfold ptM ckC ckP
  rw [hS]
  split
  · rw [wdN_eq]
  · split
    · rfl
    · simp
theorem ckC_len {l : List Ob} {g : Glb} (G : NmG l g) {n : Nat} (hn : n < oBs l l.length) : ((ckC l g n).length : Int) = itS (itF l g) n + if (loF l g).getD n false = true then 1 else 0 := by
  unfold ckC
  have z := itF_size l g hn
  by_cases hb : itB (itF l g) n = false
  · rw [if_pos hb, wdL_len, if_neg fun h => by rw [lo_br h] at hb; cases hb]; omega
  · rw [if_neg hb]
    obtain ⟨o, w, I⟩ := itAt hn
    have := I.one G (by simpa using hb)
    split
    · rw [this]; rfl
    · rw [this]; rfl
theorem ptN_pos {l : List Ob} {g : Glb} (G : NmG l g) : ∀ n, n ≤ oBs l l.length → ((ptN l g n).code.length : Int) = plN l g n
  | 0, _ => rfl
  | n + 1, h => by
    have ih := ptN_pos G n (by omega)
    have hc := ckC_len G (show n < oBs l l.length by omega)
    rw [ptN, ptM_eq]
    show (((ptN l g n).code ++ ckC l g n).length : Int) = plS (itF l g) (loF l g) (n + 1)
    rw [List.length_append, plS]
    have : plS (itF l g) (loF l g) n = plN l g n := rfl
    omega
theorem ptN_entry (l : List Ob) (g : Glb) : ∀ n, (ptN l g n).entry = (im0 l g).entry ∧ (ptN l g n).data = (im0 l g).data ∧ (ptN l g n).drefs = (im0 l g).drefs
  | 0 => ⟨rfl, rfl, rfl⟩
  | n + 1 => by rw [ptN, ptM_eq]; exact ptN_entry l g n
theorem ptN_pre (l : List Ob) (g : Glb) {n : Nat} : ∀ m, n ≤ m → (∃ t, (ptN l g m).code = (ptN l g n).code ++ t) ∧ (∃ t, (ptN l g m).places = (ptN l g n).places ++ t) ∧ (∃ t, (ptN l g m).starts = (ptN l g n).starts ++ t)
  | 0, h => by rw [show n = 0 by omega]; exact ⟨⟨[], by simp⟩, ⟨[], by simp⟩, ⟨[], by simp⟩⟩
  | m + 1, h => by
    by_cases e : n = m + 1
    · subst e; exact ⟨⟨[], by simp⟩, ⟨[], by simp⟩, ⟨[], by simp⟩⟩
    · obtain ⟨⟨t1, e1⟩, ⟨t2, e2⟩, ⟨t3, e3⟩⟩ := ptN_pre l g (n := n) m (by omega)
      rw [ptN, ptM_eq]
      refine ⟨⟨t1 ++ ckC l g m, ?_⟩, ⟨t2 ++ ckP l g m (ptN l g m).code.length, ?_⟩, ⟨t3 ++ ckS l m (ptN l g m).code.length, ?_⟩⟩
      · simp only [e1, List.append_assoc]
      · simp only [e2, List.append_assoc]
      · simp only [e3, List.append_assoc]
theorem code_at {l : List Ob} {g : Glb} (K : LkOk l g) {n i : Nat} (hn : n < oBs l l.length) (hi : i < (ckC l g n).length) :
    (imgM l g).code.getD ((plN l g n).toNat + i) 0 = (ckC l g n).getD i 0 ∧ (plN l g n).toNat + i < (imgM l g).code.length := by
  have hb := K.bs
  obtain ⟨⟨t, e⟩, _⟩ := ptN_pre l g (n := n + 1) (itF l g).length (by omega)
  have hp := ptN_pos K.nm n (by omega)
  have e2 : (ptN l g (n + 1)).code = (ptN l g n).code ++ ckC l g n := by rw [ptN, ptM_eq]
  have e3 : (imgM l g).code = (ptN l g n).code ++ (ckC l g n ++ t) := by unfold imgM; rw [e, e2, List.append_assoc]
  have hpl : (plN l g n).toNat = (ptN l g n).code.length := by omega
  rw [e3, hpl]
  refine ⟨?_, by simp only [List.length_append]; omega⟩
  rw [getD_app_r _ _ _ (by omega), Nat.add_sub_cancel_left, getD_app_l _ _ _ hi]
theorem code_len {l : List Ob} {g : Glb} (K : LkOk l g) : ((imgM l g).code.length : Int) = plN l g (oBs l l.length) := by
  unfold imgM; rw [K.bs.2.1]; exact ptN_pos K.nm _ (Nat.le_refl _)
theorem start_iff {l : List Ob} {g : Glb} (G : NmG l g) (v : Int) : ∀ m, m ≤ oBs l l.length → (v ∈ (ptN l g m).starts ↔ ∃ n, n < m ∧ v ∈ ckS l n (plN l g n))
  | 0, _ => ⟨fun h => (by cases h), fun ⟨n, h, _⟩ => (by omega)⟩
  | m + 1, h => by
    have ih := start_iff G v m (by omega)
    have hp := ptN_pos G m (by omega)
    rw [ptN, ptM_eq]
    simp only [List.mem_append, hp, ih]
    exact ⟨fun h => h.elim (fun ⟨n, h1, h2⟩ => ⟨n, by omega, h2⟩) fun h => ⟨m, by omega, h⟩, fun ⟨n, h1, h2⟩ => by
      by_cases e : n = m
      · subst e; exact .inr h2
      · exact .inl ⟨n, by omega, h2⟩⟩
theorem place_iff {l : List Ob} {g : Glb} (G : NmG l g) (v : Int) : ∀ m, m ≤ oBs l l.length → (v ∈ (ptN l g m).places ↔ ∃ n, n < m ∧ v ∈ ckP l g n (plN l g n))
  | 0, _ => ⟨fun h => (by cases h), fun ⟨n, h, _⟩ => (by omega)⟩
  | m + 1, h => by
    have ih := place_iff G v m (by omega)
    have hp := ptN_pos G m (by omega)
    rw [ptN, ptM_eq]
    simp only [List.mem_append, hp, ih]
    exact ⟨fun h => h.elim (fun ⟨n, h1, h2⟩ => ⟨n, by omega, h2⟩) fun h => ⟨m, by omega, h⟩, fun ⟨n, h1, h2⟩ => by
      by_cases e : n = m
      · subst e; exact .inr h2
      · exact .inl ⟨n, by omega, h2⟩⟩
theorem start_of {l : List Ob} {g : Glb} (K : LkOk l g) {o w : Nat} (ho : o < l.length) (hw : w < (obN l o).map.length) (hm : (obN l o).map.getD w 0 = 1) : plN l g (pix l o w) ∈ (imgM l g).starts := by
  have hm' : (obN l o).map.getD w 0 ≠ 0 := by rw [hm]; decide
  have hlt := pix_lt (l := l) ho hw hm'
  unfold imgM
  rw [K.bs.2.1, start_iff K.nm _ _ (Nat.le_refl _)]
  refine ⟨pix l o w, hlt, ?_⟩
  have I := itAt_of ho hw hm'
  unfold ckS
  rw [I.own]
  simp only [Int.toNat_natCast]
  rw [if_pos hm]; exact List.mem_singleton.2 rfl
theorem adr_start {l : List Ob} {g : Glb} (K : LkOk l g) {x : Int × Int} (hx : Own l x) (h2 : (symAt l x.1 x.2).in_ = 2) : adrL l g x - 2048 ∈ (imgM l g).starts := by
  obtain ⟨o, s, rfl, ho, hs, h3⟩ := hx
  rw [symAt_nat] at h2
  obtain ⟨h0, hw, hm, _⟩ := K.code ho hs h2
  have := start_of K ho hw hm
  unfold adrL
  simp only [symAt_nat, Int.toNat_natCast]
  rw [if_neg (by omega)]
  have e : (2048 : Int) + plN l g (pix l o (syO l o s).value.toNat) - 2048 = plN l g (pix l o (syO l o s).value.toNat) := by omega
  rw [e]; exact this
theorem u32_id {x : Int} (h : 0 ≤ x) (h' : x ≤ 4294967295) : u32W x = x := by unfold u32W; rw [IntKind.wrap_u32]; omega
theorem VOb.add {o : Ob} (v : VOb o) {j : Nat} (hj : j < o.crels.length) (ha : (o.crels.getD j RT.rel.dflt).add ≠ 0) : (o.syms.getD (o.crels.getD j RT.rel.dflt).sym.toNat RT.sym.dflt).in_ = 1 := by
  obtain ⟨_, _, _, _, c5, _, _, c8, _⟩ := v.crel hj _ rfl
  unfold shapeB at c8
  rcases c5 with h | h
  · rw [if_neg (by omega)] at c8
    split at c8
    · cases c8
    · rename_i h1
      simp only [Bool.and_eq_true, Bool.not_eq_true', decide_eq_false_iff_not, not_and, Bool.not_eq_false] at h1
      simpa using h1 ha
  · rw [if_pos h] at c8
    simp only [Bool.and_eq_true, decide_eq_true_eq] at c8
    exact absurd c8.2 ha
theorem VOb.addD {o : Ob} (v : VOb o) {j : Nat} (hj : j < o.drels.length) (ha : (o.drels.getD j RT.rel.dflt).add ≠ 0) : (o.syms.getD (o.drels.getD j RT.rel.dflt).sym.toNat RT.sym.dflt).in_ = 1 := by
  have := v.dr j hj
  unfold drE at this
  simp only at this
  split at this
  · cases this
  · rename_i hs
    rw [this] at hs
    simp only [Bool.not_false, Bool.true_and, Bool.and_eq_true, Bool.not_eq_true', decide_eq_false_iff_not, not_and, Bool.not_eq_false] at hs
    simpa using hs ha
theorem real_data {l : List Ob} {g : Glb} {i : Nat} {s : Int} (h0 : 0 ≤ s) (h : (syO l i s.toNat).in_ = 1) : (symAt l (realM l g i s).1 (realM l g i s).2).in_ = 1 := by
  obtain ⟨s', rfl⟩ : ∃ n : Nat, s = n := ⟨s.toNat, (Int.toNat_of_nonneg h0).symm⟩
  have e : symAt l i s' = syO l i s' := symAt_nat l i s'
  have h' : (symAt l i s').in_ = 1 := by rw [e]; exact h
  unfold realM
  rw [if_neg (by omega)]; exact h'
end Go.Proofs.YtacmmedhjebfjaaDoor
set_option linter.unusedVariables false
set_option linter.unusedSimpArgs false
namespace Go.Proofs.YtacmmedhjebfjaaDoor
open Go.RowKit Go.Sy Go.Fac
theorem wdP_iff (l : List Ob) (g : Glb) (o a p v : Int) : ∀ m, v ∈ wdP l g o a p m ↔ ∃ i : Nat, i < m ∧ wdC l g o (a + i) = true ∧ v = p + i
  | 0 => ⟨fun h => (by cases h), fun ⟨n, h, _⟩ => (by omega)⟩
  | m + 1 => by
    rw [wdP, List.mem_append, wdP_iff l g o a p v m]
    refine ⟨fun h => h.elim (fun ⟨i, h1, h2⟩ => ⟨i, by omega, h2⟩) fun h => ?_, fun ⟨i, h1, h2, h3⟩ => ?_⟩
    · split at h
      · rename_i hc; exact ⟨m, by omega, hc, List.mem_singleton.1 h⟩
      · cases h
    · by_cases e : i = m
      · subst e; rw [if_pos h2]; exact .inr (List.mem_singleton.2 h3)
      · exact .inl ⟨i, by omega, h2, h3⟩
theorem wdL_get (l : List Ob) (g : Glb) (o a d : Int) : ∀ m i, i < m → (wdL l g o a m).getD i d = wdV l g o (a + i)
  | 0, i, h => by omega
  | m + 1, i, h => by
    rw [wdL]
    by_cases e : i = m
    · subst e
      have := getD_one (wdL l g o a i) (wdV l g o (a + i)) d
      rw [wdL_len] at this; exact this
    · rw [getD_app_l _ _ _ (by rw [wdL_len]; omega)]; exact wdL_get l g o a d m i (by omega)
theorem wdC_adr {l : List Ob} {g : Glb} (K : LkOk l g) {o : Nat} (ho : o < l.length) {a : Int} (h : wdC l g o a = true) : wdV l g o a = adrL l g (wdTo l g o a) ∧ Own l (wdTo l g o a) ∧ (symAt l (wdTo l g o a).1 (wdTo l g o a).2).in_ = 2 := by
  unfold wdC at h
  rw [Bool.and_eq_true] at h
  obtain ⟨h1, h2⟩ := h
  have h2 := of_decide_eq_true h2
  have hR := h1
  unfold wdR at hR
  rw [Bool.and_eq_true] at hR
  obtain ⟨k, k1, k2, k3⟩ := rH_is ho hR.1
  have V := K.nm.val o ho
  obtain ⟨c1, c2, c3, c4, _⟩ := V.crel k1 _ rfl
  have O : Own l (wdTo l g o a) := by unfold wdTo; rw [k3]; exact K.nm.own ho c3 c4
  have hA := K.adr O
  have hadd : (rG l o a).add = 0 := by
    rw [k3]
    by_cases e : (relN l o k).add = 0
    · exact e
    · have := V.add k1 e
      have h4 := real_data (g := g) c3 this
      have h5 : (symAt l (wdTo l g o a).1 (wdTo l g o a).2).in_ = 1 := by unfold wdTo; rw [k3]; exact h4
      omega
  refine ⟨?_, O, h2⟩
  unfold wdV
  rw [if_pos h1, hadd, u32_id (x := 0) (by omega) (by omega), Int.add_zero]
  exact u32_id hA.1 (by omega)
def NoData (l : List Ob) (g : Glb) : Prop := ∀ i, i < l.length → toO l g i = false
theorem NoData.at_ {l : List Ob} {g : Glb} (T : NoData l g) (G : NmG l g) {o k : Nat} (ho : o < l.length) (hk : k < (obN l o).crels.length) (hj : jumpsB (obN l o).code (obN l o).map (relN l o k).at_ (relN l o k).kind = true) :
    Own l (realM l g o (relN l o k).sym) ∧ (symAt l (realM l g o (relN l o k).sym).1 (realM l g o (relN l o k).sym).2).in_ = 2 := by
  have h := T o ho
  unfold toO at h
  rw [decide_eq_false_iff_not, Decidable.not_not] at h
  have h := idxM_all h k hk
  unfold toB at h
  rw [hj, Bool.true_and, decide_eq_false_iff_not] at h
  obtain ⟨_, _, c3, c4, _⟩ := (G.val o ho).crel hk _ rfl
  have O := G.own ho c3 c4
  refine ⟨O, ?_⟩
  obtain ⟨o', s', e, h1, h2, h3⟩ := O
  have e' : realM l g o (relN l o k).sym = ((o' : Int), (s' : Int)) := e
  rw [e'] at h ⊢
  simp only [symAt_nat] at h ⊢
  rcases Own.in12 G h1 h2 h3 with h4 | h4
  · exact absurd h4 h
  · exact h4
theorem br_to {l : List Ob} {g : Glb} (G : NmG l g) (T : NoData l g) {n o w : Nat} (I : ItAt l n o w) (hb : itB (itF l g) n = true) :
    Own l (itTo l g n) ∧ (symAt l (itTo l g n).1 (itTo l g n).2).in_ = 2 ∧ itG (itF l g) n = im1 (imL l) (itTo l g n).1 (symAt l (itTo l g n).1 (itTo l g n).2).value := by
  obtain ⟨k, k1, k2, k3, k4, k5, k6, k7, k8⟩ := I.br G hb
  have e : itTo l g n = realM l g o (relN l o k).sym := by unfold itTo; rw [I.own]; simp only; rw [k5]
  obtain ⟨h1, h2⟩ := T.at_ G I.ho k1 (by unfold jumpsB; rw [if_pos k2])
  rw [e]
  exact ⟨h1, h2, k4⟩
theorem goes_places {l : List Ob} {g : Glb} (K : LkOk l g) (T : NoData l g) {p : Int} (hp : p ∈ (imgM l g).places) : 0 ≤ p ∧ p < (imgM l g).code.length ∧ (imgM l g).code.getD p.toNat 0 - 2048 ∈ (imgM l g).starts := by
  unfold imgM at hp
  rw [K.bs.2.1, place_iff K.nm _ _ (Nat.le_refl _)] at hp
  obtain ⟨n, hn, hp⟩ := hp
  obtain ⟨o, w, I⟩ := itAt hn
  have hpl := K.plN (n := n) (by rw [K.bs.2.1]; omega)
  unfold ckP at hp
  by_cases hb : itB (itF l g) n = false
  · rw [if_pos hb, I.own] at hp
    rw [wdP_iff] at hp
    obtain ⟨i, hi, hc, rfl⟩ := hp
    have hl : i < (ckC l g n).length := by unfold ckC; rw [if_pos hb, wdL_len]; exact hi
    obtain ⟨c1, c2⟩ := code_at K hn hl
    have e : (plN l g n + i).toNat = (plN l g n).toNat + i := by omega
    have hC : (ckC l g n).getD i 0 = wdV l g o ((w : Int) + i) := by
      unfold ckC; rw [if_pos hb, I.own]; exact wdL_get _ _ _ _ _ _ _ hi
    obtain ⟨a1, a2, a3⟩ := wdC_adr K I.ho hc
    refine ⟨by omega, by omega, ?_⟩
    rw [e, c1, hC, a1]
    exact adr_start K a2 a3
  · rw [if_neg hb] at hp
    have hb : itB (itF l g) n = true := by simpa using hb
    by_cases hlo : (loF l g).getD n false = true
    · rw [if_pos hlo] at hp
      have hp := List.mem_singleton.1 hp
      subst hp
      have hC : ckC l g n = [wordW ((itI l n).op - 16 + 19) (itI l n).a (itI l n).b 0 (adrL l g (itTo l g n)), adrL l g (itTo l g n)] := by unfold ckC; rw [if_neg (by rw [hb]; simp), if_pos hlo]
      obtain ⟨c1, c2⟩ := code_at K hn (i := 1) (by rw [hC]; exact Nat.lt_succ_self 1)
      have e : (plN l g n + 1).toNat = (plN l g n).toNat + 1 := by omega
      obtain ⟨a2, a3, _⟩ := br_to K.nm T I hb
      refine ⟨by omega, by omega, ?_⟩
      rw [e, c1, hC]
      exact adr_start K a2 a3
    · rw [if_neg hlo] at hp; cases hp
structure DtI (l : List Ob) (g : Glb) (b : Int) (x : List Int × List Int) : Prop where
  ok : ∀ p, p ∈ x.2 → 0 ≤ p ∧ p < b ∧ p < x.1.length ∧ x.1.getD p.toNat 0 - 2048 ∈ (imgM l g).starts
theorem dtJ_inv {l : List Ob} {g : Glb} (K : LkOk l g) {i : Nat} (hi : i < l.length) {x : List Int × List Int} (hx : (x.1.length : Int) = oDn l (i + 1)) (h : DtI l g (oDn l i) x) : ∀ j, j ≤ (obN l i).drels.length → DtI l g (oDn l i + lastR (obN l i).drels j + 1) (dtJ l g i x j)
  | 0, _ => ⟨fun p hp => by
      obtain ⟨h1, h2, h3⟩ := h.ok p hp
      exact ⟨h1, by show p < oDn l i + -1 + 1; omega, h3⟩⟩
  | j + 1, hj => by
    have ih := dtJ_inv K hi hx h j (by omega)
    have V := K.nm.val i hi
    obtain ⟨c1, c2, c3, c4, c5, c6, c7⟩ := V.drel (show j < _ by omega) _ rfl
    have hlen : ((dtJ l g i x j).1.length : Int) = oDn l (i + 1) := by rw [(dtJ_len l g i x j).1]; exact hx
    have hd0 := oDn_nn l i
    have hd1 : oDn l (i + 1) = oDn l i + (obN l i).data.length := rfl
    have hlast : lastR (obN l i).drels (j + 1) = (drlN l i j).at_ := rfl
    have hq : ((obN l i).drels.getD j RT.rel.dflt) = drlN l i j := rfl
    rw [hq] at c1 c2 c3 c4 c5 c6 c7
    rw [dtJ, hlast]
    generalize dtJ l g i x j = y at ih hlen
    unfold dtS
    have old : ∀ v, ∀ p, p ∈ y.2 → 0 ≤ p ∧ p < oDn l i + (drlN l i j).at_ + 1 ∧ p < (y.1.set (oDn l i + (drlN l i j).at_).toNat v).length ∧ (y.1.set (oDn l i + (drlN l i j).at_).toNat v).getD p.toNat 0 - 2048 ∈ (imgM l g).starts := fun v p hp => by
      obtain ⟨h1, h2, h3, h4⟩ := ih.ok p hp
      refine ⟨h1, by omega, by rw [List.length_set]; exact h3, ?_⟩
      rw [getD_set, if_neg (by omega)]; exact h4
    refine ⟨fun p hp => ?_⟩
    simp only at hp ⊢
    split at hp
    · rename_i h2
      rw [List.mem_append] at hp
      rcases hp with hp | hp
      · exact old _ p hp
      · have hp := List.mem_singleton.1 hp
        subst hp
        refine ⟨by omega, by omega, by rw [List.length_set]; omega, ?_⟩
        rw [getD_set, if_pos ⟨rfl, by omega⟩]
        have O := K.nm.own hi c3 c4
        have hA := K.adr O
        have hadd : (drlN l i j).add = 0 := by
          by_cases e : (drlN l i j).add = 0
          · exact e
          · have := V.addD (show j < _ by omega) e
            have h4 := real_data (g := g) c3 this
            omega
        rw [hadd, u32_id (x := 0) (by omega) (by omega), Int.add_zero, u32_id hA.1 (by omega)]
        exact adr_start K O h2
    · exact old _ p hp
theorem dtO_inv {l : List Ob} {g : Glb} (K : LkOk l g) : ∀ i, i ≤ l.length → DtI l g (oDn l i) (dtO l g i)
  | 0, _ => ⟨fun p hp => by cases hp⟩
  | i + 1, h => by
    have ih := dtO_inv K i (by omega)
    have hl := dtO_len l g i
    have hd1 : oDn l (i + 1) = oDn l i + (obN l i).data.length := rfl
    have := dtJ_inv K (show i < l.length by omega) (x := ((dtO l g i).1 ++ (obN l i).data, (dtO l g i).2)) (by simp only [List.length_append]; omega) ⟨fun p hp => by
      obtain ⟨h1, h2, h3, h4⟩ := ih.ok p hp
      refine ⟨h1, h2, by simp only [List.length_append]; omega, ?_⟩
      simp only
      rw [getD_app_l _ _ _ (by omega)]; exact h4⟩ _ (Nat.le_refl (obN l i).drels.length)
    rw [dtO]
    have hl2 := dtO_len l g (i + 1)
    rw [dtO] at hl2
    refine ⟨fun p hp => ?_⟩
    obtain ⟨h1, h2, h3, h4⟩ := this.ok p hp
    exact ⟨h1, by omega, h3, h4⟩
theorem goes_drefs {l : List Ob} {g : Glb} (K : LkOk l g) {p : Int} (hp : p ∈ (imgM l g).drefs) : 0 ≤ p ∧ p < (imgM l g).data.length ∧ (imgM l g).data.getD p.toNat 0 - 2048 ∈ (imgM l g).starts := by
  obtain ⟨_, e2, e3⟩ := ptN_entry l g (itF l g).length
  have e2 : (imgM l g).data = (dtO l g l.length).1 := e2
  have e3 : (imgM l g).drefs = (dtO l g l.length).2 := e3
  rw [e3] at hp
  rw [e2]
  obtain ⟨h1, _, h3, h4⟩ := (dtO_inv K l.length (Nat.le_refl _)).ok p hp
  exact ⟨h1, h3, h4⟩
theorem atM_get (cr : List Rel) (k : Int) : ∀ n, mapGet (atM cr n) k ≠ 0 → ∃ j, j < n ∧ (cr.getD j RT.rel.dflt).at_ = k ∧ (cr.getD j RT.rel.dflt).kind = mapGet (atM cr n) k
  | 0, h => absurd rfl h
  | n + 1, h => by
    rw [atM] at h ⊢
    by_cases e : (cr.getD n RT.rel.dflt).at_ = k
    · subst e; rw [get_put]; exact ⟨n, by omega, rfl, rfl⟩
    · rw [get_put_ne _ _ _ _ e] at h ⊢
      obtain ⟨j, h1, h2⟩ := atM_get cr k n h
      exact ⟨j, by omega, h2⟩
theorem VOb.ins {o : Ob} (v : VOb o) {w : Nat} (hw : w < o.map.length) (hm : o.map.getD w 0 = 1) : insB o.code o.map w = true ∧ ofOk (o.code.getD w 0) = true ∧ (insI o.code o.map w) = ofF (o.code.getD w 0) (nextW o.code w) ∧ callB o.code o.map w = false ∧
    (isaTwo (o.code.getD w 0 / 16777216) = true → w + 1 < o.code.length ∧ o.map.getD (w + 1) 0 = 0) ∧ (insI o.code o.map w).op = o.code.getD w 0 / 16777216 := by
  have h := v.words w (by have := v.map; omega)
  unfold wordBE at h
  rw [Int.toNat_natCast, if_pos hm] at h
  split at h
  · cases h
  · rename_i h1
    have h1 : (!insB o.code o.map w || callB o.code o.map w) = false := by simpa using h1
    rw [Bool.or_eq_false_iff, Bool.not_eq_false'] at h1
    obtain ⟨h1, h1'⟩ := h1
    have hb := h1
    unfold insB at hb
    rw [Bool.and_eq_true, Int.toNat_natCast] at hb
    have e : insI o.code o.map w = ofF (o.code.getD w 0) (nextW o.code w) := by unfold insI; rw [if_pos hb.1, Int.toNat_natCast]
    have e2 : (insI o.code o.map w).op = o.code.getD w 0 / 16777216 := by rw [e]; unfold ofF; rw [if_pos hb.2]
    refine ⟨h1, hb.2, e, h1', fun ht => ?_, e2⟩
    split at h
    · cases h
    · rename_i h2
      rw [e2, ht] at h2
      simp only [Bool.true_and, Bool.or_eq_true, decide_eq_true_eq, not_or, Bool.not_eq_true', decide_eq_false_iff_not, Decidable.not_not] at h2
      have e3 : ((w : Int) + 1).toNat = w + 1 := by omega
      rw [e3] at h2
      exact ⟨by omega, h2.2⟩
theorem VOb.first {o : Ob} (v : VOb o) {j : Nat} (hj : j < o.crels.length) {w : Nat} (hw : (o.crels.getD j RT.rel.dflt).at_ = w) (hm : o.map.getD w 0 = 1) : (o.crels.getD j RT.rel.dflt).kind = 2 := by
  obtain ⟨_, _, _, _, c5, _, _, c8, _⟩ := v.crel hj _ rfl
  rcases c5 with h | h
  · unfold shapeB at c8
    rw [if_neg (by omega)] at c8
    split at c8
    · cases c8
    · rw [hw, Int.toNat_natCast, hm] at c8
      rw [if_neg (by decide)] at c8
      simp at c8
  · exact h
theorem wordW_val {op a b c i : Int} (h : wordOk op a b c i = true) : wordW op a b c i = op * 16777216 + a * 65536 + b * 256 + c ∧ 0 ≤ a ∧ a ≤ 255 ∧ 0 ≤ b ∧ b ≤ 255 ∧ 0 ≤ c ∧ c ≤ 255 := by
  have hw := h
  unfold wordOk at h
  simp only [Bool.and_eq_true] at h
  obtain ⟨⟨⟨⟨_, g2⟩, g3⟩, g4⟩, _⟩ := h
  have := fits_in g2
  have := fits_in g3
  have := fits_in g4
  unfold wordW; rw [if_pos hw]; unfold wordVal
  exact ⟨rfl, by omega, by omega, by omega, by omega, by omega, by omega⟩
theorem word_dec {op a b c : Int} (ha : 0 ≤ a ∧ a ≤ 255) (hb : 0 ≤ b ∧ b ≤ 255) (hc : 0 ≤ c ∧ c ≤ 255) : (op * 16777216 + a * 65536 + b * 256 + c) / 16777216 = op ∧ (op * 16777216 + a * 65536 + b * 256 + c) / 65536 % 256 = a ∧ (op * 16777216 + a * 65536 + b * 256 + c) / 256 % 256 = b ∧ (op * 16777216 + a * 65536 + b * 256 + c) % 256 = c := by omega
theorem long_ok {op a b : Int} (h : shortM op = true) {c i : Int} (hw : wordOk op a b c 0 = true) : wordOk (op - 16 + 19) a b 0 i = true ∧ wordOk (op - 16 + 19) a b 0 0 = true := by
  unfold wordOk at hw ⊢
  simp only [Bool.and_eq_true] at hw
  obtain ⟨⟨⟨⟨_, g2⟩, g3⟩, _⟩, _⟩ := hw
  rcases short_op h with h | h | h <;> subst h
  · have e1 : kA 16 = kA 19 := rfl
    have e2 : kB 16 = kB 19 := rfl
    rw [e1] at g2; rw [e2] at g3
    simp only [show (16 : Int) - 16 + 19 = 19 from rfl, g2, g3]
    exact ⟨by simp [isaClass, isaTwo, fitsM, kC, most], by simp [isaClass, isaTwo, fitsM, kC, most]⟩
  · have e1 : kA 17 = kA 20 := rfl
    have e2 : kB 17 = kB 20 := rfl
    rw [e1] at g2; rw [e2] at g3
    simp only [show (17 : Int) - 16 + 19 = 20 from rfl, g2, g3]
    exact ⟨by simp [isaClass, isaTwo, fitsM, kC, most], by simp [isaClass, isaTwo, fitsM, kC, most]⟩
  · have e1 : kA 18 = kA 21 := rfl
    have e2 : kB 18 = kB 21 := rfl
    rw [e1] at g2; rw [e2] at g3
    simp only [show (18 : Int) - 16 + 19 = 21 from rfl, g2, g3]
    exact ⟨by simp [isaClass, isaTwo, fitsM, kC, most], by simp [isaClass, isaTwo, fitsM, kC, most]⟩
theorem short_ok {op a b : Int} (h : shortM op = true) {c : Int} (hw : wordOk op a b c 0 = true) {z : Int} (hz : 0 ≤ z ∧ z ≤ 255) : wordOk op a b z 0 = true := by
  unfold wordOk at hw ⊢
  simp only [Bool.and_eq_true] at hw ⊢
  obtain ⟨⟨⟨⟨g1, g2⟩, g3⟩, _⟩, g5⟩ := hw
  refine ⟨⟨⟨⟨g1, g2⟩, g3⟩, ?_⟩, g5⟩
  have e : kC op = 2 := by rcases short_op h with h | h | h <;> rw [h] <;> rfl
  rw [e]
  unfold fitsM most
  simp; omega
theorem disp8_in (z : Int) : 0 ≤ disp8 z ∧ disp8 z ≤ 255 := by unfold disp8; rw [IntKind.wrap_u8]; omega
theorem disp8_back {z : Int} (h : -128 ≤ z) (h' : z ≤ 127) : dispM (disp8 z) = z := by unfold dispM disp8; rw [IntKind.wrap_u8]; omega
inductive Became (l : List Ob) (g : Glb) (n o w : Nat) : Prop where
  | same : itB (itF l g) n = false → ckC l g n = wdL l g o w (itS (itF l g) n).toNat → wdV l g o w = (obN l o).code.getD w 0 → Became l g n o w
  | long : itB (itF l g) n = true → (loF l g).getD n false = true → shortM (itI l n).op = true → wordOk ((itI l n).op - 16 + 19) (itI l n).a (itI l n).b 0 0 = true →
      ckC l g n = [((itI l n).op - 16 + 19) * 16777216 + (itI l n).a * 65536 + (itI l n).b * 256 + 0, adrL l g (itTo l g n)] → Became l g n o w
  | short : itB (itF l g) n = true → (loF l g).getD n false = false → shortM (itI l n).op = true → wordOk (itI l n).op (itI l n).a (itI l n).b (disp8 (plN l g (itG (itF l g) n).toNat - plN l g n)) 0 = true →
      ckC l g n = [(itI l n).op * 16777216 + (itI l n).a * 65536 + (itI l n).b * 256 + disp8 (plN l g (itG (itF l g) n).toNat - plN l g n)] → Became l g n o w
theorem became {l : List Ob} {g : Glb} (K : LkOk l g) {n o w : Nat} (I : ItAt l n o w) (hm : (obN l o).map.getD w 0 = 1) : Became l g n o w := by
  have V := K.nm.val o I.ho
  obtain ⟨i1, i2, i3, i4, i5, i6⟩ := V.ins I.hw hm
  have eI : itI l n = insI (obN l o).code (obN l o).map w := by unfold itI; rw [I.own]; simp only [Int.toNat_natCast]
  by_cases hb : itB (itF l g) n = false
  · refine .same hb (by unfold ckC; rw [if_pos hb, I.own]) ?_
    have hR : wdR l o w = false := by
      cases h : wdR l o w with
      | false => rfl
      | true =>
        unfold wdR at h
        rw [Bool.and_eq_true] at h
        obtain ⟨k, k1, k2, k3⟩ := rH_is I.ho h.1
        have h2 := of_decide_eq_true h.2
        rw [k3] at h2
        have := V.first k1 k2 hm
        have : (relN l o k).kind = 2 := this
        omega
    unfold wdV
    rw [if_neg (by rw [hR]; simp)]
    simp only [Int.toNat_natCast]
  · have hb : itB (itF l g) n = true := by simpa using hb
    obtain ⟨k, k1, k2, k3, k4, k5, k6, k7, k8⟩ := I.br K.nm hb
    rw [← eI] at k8
    have hw : wordOk (itI l n).op (itI l n).a (itI l n).b (itI l n).c 0 = true := by
      rw [eI, i3]; unfold ofF; rw [if_pos i2]; exact i2
    have himm : (itI l n).imm = 0 := by
      have : isaTwo ((obN l o).code.getD w 0 / 16777216) = false := by rw [← i6, ← eI]; exact short_two k8
      rw [eI, i3]; unfold ofF ofImm; rw [if_pos i2, this]; rfl
    cases hlo : (loF l g).getD n false with
    | true =>
      refine .long hb hlo k8 (long_ok (i := 0) k8 hw).2 ?_
      unfold ckC
      rw [if_neg (by rw [hb]; simp), if_pos hlo, (wordW_val (long_ok k8 hw).1).1]
    | false =>
      have hok := short_ok k8 hw (disp8_in (plN l g (itG (itF l g) n).toNat - plN l g n))
      refine .short hb hlo k8 hok ?_
      unfold ckC
      rw [if_neg (by rw [hb]; simp), if_neg (by rw [hlo]; simp), himm, (wordW_val hok).1]
theorem start_is {l : List Ob} {g : Glb} (K : LkOk l g) {p : Int} (hp : p ∈ (imgM l g).starts) : ∃ n o w, n < oBs l l.length ∧ ItAt l n o w ∧ (obN l o).map.getD w 0 = 1 ∧ p = plN l g n := by
  unfold imgM at hp
  rw [K.bs.2.1, start_iff K.nm _ _ (Nat.le_refl _)] at hp
  obtain ⟨n, hn, hp⟩ := hp
  obtain ⟨o, w, I⟩ := itAt hn
  unfold ckS at hp
  rw [I.own] at hp
  simp only [Int.toNat_natCast] at hp
  split at hp
  · rename_i hm
    exact ⟨n, o, w, hn, I, hm, List.mem_singleton.1 hp⟩
  · cases hp
theorem goes_starts {l : List Ob} {g : Glb} (K : LkOk l g) (T : NoData l g) {p : Int} (hp : p ∈ (imgM l g).starts) : 0 ≤ p ∧ p < (imgM l g).code.length ∧ ofOk ((imgM l g).code.getD p.toNat 0) = true ∧
    (shortM ((imgM l g).code.getD p.toNat 0 / 16777216) = true → p + dispM ((imgM l g).code.getD p.toNat 0 % 256) ∈ (imgM l g).starts) ∧
    (farM ((imgM l g).code.getD p.toNat 0 / 16777216) = true → p + 1 ∈ (imgM l g).places) := by
  obtain ⟨n, o, w, hn, I, hm, rfl⟩ := start_is K hp
  have V := K.nm.val o I.ho
  have hpl := K.plN (n := n) (by rw [K.bs.2.1]; omega)
  obtain ⟨i1, i2, i3, i4, i5, i6⟩ := V.ins I.hw hm
  have hwl : w < (obN l o).code.length := by have := V.map; have := I.hw; omega
  have hneed := V.need w hwl
  unfold needE at hneed
  have hneed : (insB (obN l o).code (obN l o).map w && ((shortM (insI (obN l o).code (obN l o).map w).op && !decide (mapGet (atM (obN l o).crels (obN l o).crels.length) (w : Int) = 2)) || ((farM (insI (obN l o).code (obN l o).map w).op || decide ((insI (obN l o).code (obN l o).map w).op = 15)) && !decide (mapGet (atM (obN l o).crels (obN l o).crels.length) ((w : Int) + 1) = 1)))) = false := by
    split at hneed
    · cases hneed
    · rename_i h; simpa using h
  rw [i1, Bool.true_and, Bool.or_eq_false_iff, i6] at hneed
  have eI : itI l n = insI (obN l o).code (obN l o).map w := by unfold itI; rw [I.own]; simp only [Int.toNat_natCast]
  have hpla : ∀ v, v ∈ ckP l g n (plN l g n) → v ∈ (imgM l g).places := fun v hv => by
    unfold imgM; rw [K.bs.2.1, place_iff K.nm _ _ (Nat.le_refl _)]; exact ⟨n, hn, hv⟩
  have first : ∀ c, (ckC l g n).getD 0 0 = c → 0 < (ckC l g n).length → (imgM l g).code.getD (plN l g n).toNat 0 = c ∧ plN l g n < (imgM l g).code.length := fun c h h' => by
    obtain ⟨c1, c2⟩ := code_at K hn h'
    rw [Nat.add_zero] at c1 c2
    exact ⟨by rw [c1, h], by omega⟩
  rcases became K I hm with ⟨hb, hC, hV⟩ | ⟨hb, hlo, hsh, hok, hC⟩ | ⟨hb, hlo, hsh, hok, hC⟩
  · have hsz := itF_size l g hn
    obtain ⟨c1, c2⟩ := first ((obN l o).code.getD w 0) (by rw [hC, wdL_get _ _ _ _ _ _ 0 (by omega)]; show wdV l g o ((w : Int) + 0) = _; rw [Int.add_zero]; exact hV) (by rw [hC, wdL_len]; omega)
    rw [c1]
    refine ⟨hpl.1, c2, i2, fun h => ?_, fun h => ?_⟩
    · rw [h, Bool.true_and, Bool.not_eq_false', decide_eq_true_eq] at hneed
      obtain ⟨k, k1, k2, k3⟩ := atM_get (obN l o).crels w _ (by rw [hneed.1]; decide)
      rw [hneed.1] at k3
      have := (brO_inv K.nm l.length (Nat.le_refl _)).all o k I.ho k1 (.inl I.ho) k3
      obtain ⟨w', e1, _, _, e4, _⟩ := br_at K.nm I.ho k1 k3
      have : w' = w := by
        have k2 : (relN l o k).at_ = w := k2
        rw [k2] at e1; omega
      subst this
      rw [e4, ← I.hn, hb] at this
      cases this
    · rw [h, Bool.true_or, Bool.true_and, Bool.not_eq_false', decide_eq_true_eq] at hneed
      obtain ⟨k, k1, k2, k3⟩ := atM_get (obN l o).crels ((w : Int) + 1) _ (by rw [hneed.2]; decide)
      rw [hneed.2] at k3
      have hfo : (obN l o).code.getD w 0 / 16777216 = 19 ∨ (obN l o).code.getD w 0 / 16777216 = 20 ∨ (obN l o).code.getD w 0 / 16777216 = 21 ∨ (obN l o).code.getD w 0 / 16777216 = 22 := by
        unfold farM at h; simp only [Bool.or_eq_true, decide_eq_true_eq] at h; omega
      have htwo : isaTwo ((obN l o).code.getD w 0 / 16777216) = true := by rcases hfo with h | h | h | h <;> rw [h] <;> rfl
      obtain ⟨t1, t2⟩ := i5 htwo
      have k2' : (relN l o k).at_ = (w : Int) + 1 := k2
      have k3' : (relN l o k).kind = 1 := k3
      have hj : jumpsB (obN l o).code (obN l o).map (relN l o k).at_ (relN l o k).kind = true := by
        unfold jumpsB
        rw [k2', k3', if_neg (by decide), show (w : Int) + 1 - 1 = w by omega, i1, i6, show ((w : Int) + 1).toNat = w + 1 by omega, t2]
        unfold isaJumps
        rw [Bool.true_and, decide_eq_true rfl, Bool.true_and, decide_eq_true_eq]; omega
      obtain ⟨_, h2⟩ := T.at_ K.nm I.ho k1 hj
      obtain ⟨r1, r2⟩ := rG_at K.nm I.ho k1
      rw [k2'] at r1 r2
      refine hpla _ ?_
      unfold ckP
      rw [if_pos hb, I.own, wdP_iff]
      refine ⟨1, ?_, ?_, rfl⟩
      · rw [(I.words K.nm).1]
        unfold szW twoB
        rw [i1, i6, htwo]; decide
      · show wdC l g o ((w : Int) + 1) = true
        unfold wdC wdR wdTo
        rw [r1, r2, k3', h2]; rfl
  · obtain ⟨e0, a1, a2, b1, b2, _⟩ := wordW_val hok
    obtain ⟨d1, d2, d3, d4⟩ := word_dec (op := (itI l n).op - 16 + 19) ⟨a1, a2⟩ ⟨b1, b2⟩ (c := 0) ⟨by omega, by omega⟩
    obtain ⟨c1, c2⟩ := first (((itI l n).op - 16 + 19) * 16777216 + (itI l n).a * 65536 + (itI l n).b * 256 + 0) (by rw [hC]; rfl) (by rw [hC]; exact Nat.succ_pos 1)
    rw [c1]
    refine ⟨hpl.1, c2, ?_, fun h => ?_, fun h => ?_⟩
    · unfold ofOk; rw [d1, d2, d3, d4]; exact hok
    · rw [d1] at h
      have h1 := short_op hsh
      have h2 := short_op h
      omega
    · refine hpla _ ?_
      unfold ckP
      rw [if_neg (by rw [hb]; simp), if_pos hlo]; exact List.mem_singleton.2 rfl
  · obtain ⟨e0, a1, a2, b1, b2, _⟩ := wordW_val hok
    have hd := disp8_in (plN l g (itG (itF l g) n).toNat - plN l g n)
    obtain ⟨d1, d2, d3, d4⟩ := word_dec (op := (itI l n).op) ⟨a1, a2⟩ ⟨b1, b2⟩ hd
    obtain ⟨c1, c2⟩ := first ((itI l n).op * 16777216 + (itI l n).a * 65536 + (itI l n).b * 256 + disp8 (plN l g (itG (itF l g) n).toNat - plN l g n)) (by rw [hC]; rfl) (by rw [hC]; exact Nat.succ_pos 0)
    rw [c1]
    refine ⟨hpl.1, c2, ?_, fun h => ?_, fun h => ?_⟩
    · unfold ofOk; rw [d1, d2, d3, d4]; exact hok
    · rw [d4]
      obtain ⟨t1, t2, t3⟩ := br_to K.nm T I hb
      have hfit := rlx_fits (itF l g) (i := n) (by rw [K.bs.2.1]; exact hn) hb hlo
      obtain ⟨o', s', e, ho', hs', h3'⟩ := t1
      rw [e] at t2 t3
      simp only [symAt_nat] at t2 t3
      obtain ⟨q0, q1, q2, q3, q4⟩ := K.code ho' hs' t2
      rw [q3] at t3
      unfold fitsB at hfit
      rw [Bool.and_eq_true, decide_eq_true_eq, decide_eq_true_eq, Int.toNat_natCast, t3, Int.toNat_natCast] at hfit
      have f1 : (plA (itF l g) (rlx (itF l g))).getD (pix l o' (syO l o' s').value.toNat) 0 = plN l g (pix l o' (syO l o' s').value.toNat) := plL_get _ _ _ _ (by omega)
      have f2 : (plA (itF l g) (rlx (itF l g))).getD n 0 = plN l g n := plL_get _ _ _ _ (by rw [K.bs.2.1]; omega)
      rw [f1, f2] at hfit
      rw [t3, Int.toNat_natCast, disp8_back hfit.1 hfit.2]
      have e2 : plN l g n + (plN l g (pix l o' (syO l o' s').value.toNat) - plN l g n) = plN l g (pix l o' (syO l o' s').value.toNat) := by omega
      rw [e2]
      exact start_of K ho' q1 q2
    · rw [d1] at h
      have h1 := short_op hsh
      unfold farM at h
      simp only [Bool.or_eq_true, decide_eq_true_eq] at h
      omega
end Go.Proofs.YtacmmedhjebfjaaDoor
