/- Contracts that the proofs use. -/
import Derived.Test.YtacmmedhjebfjaaGreatDoorQLinkMany5
set_option linter.unusedVariables false
set_option linter.unusedSimpArgs false
namespace Go.Proofs.YtacmmedhjebfjaaGreatDoor
open Go.RowKit Go.Sy Go.Fac
theorem rlxN_br (its : List itT.ty) : ∀ k j, (rlxN its k).getD j false = true → itB its j = true
 | 0, j, h => by
  rw [rlxN, List.getD_eq_getElem?_getD, List.getElem?_replicate] at h
  split at h <;> cases h
 | k + 1, j, h => by
  by_cases hj : j < its.length
  ·rw [rlxN, rndU_at its _ (rlxN_len its k) j hj _ hj, Bool.or_eq_true] at h
   rcases h with h | h
   ·exact rlxN_br its k j h
   ·unfold goesL at h; simp only [Bool.and_eq_true] at h; exact h.1.1
  ·rw [getD_none _ _ (by rw [rlxN_len]; omega)] at h; cases h
theorem lo_br {l : List Ob} {g : Glb} {n : Nat} (h : (loF l g).getD n false = true) : itB (itF l g) n = true := rlxN_br _ _ _ h
theorem short_two {op : Int} (h : shortM op = true) : isaTwo op = false := by
 rcases short_op h with h | h | h <;> rw [h] <;> rfl
theorem ItAt.one {l : List Ob} {g : Glb} (G : NmG l g) {n o w : Nat} (I : ItAt l n o w) (hb : itB (itF l g) n = true) : itS (itF l g) n = 1 := by
 obtain ⟨k, _, _, _, _, _, _, k7, k8⟩ := I.br G hb
 rw [(I.words G).1]
 unfold szW twoB
 rw [k7, short_two k8]; rfl
def ckS (l : List Ob) (n : Nat) (p : Int) : List Int := if (obN l (itO l n).1.toNat).map.getD (itO l n).2.toNat 0 = 1 then [p] else []
def wdL (l : List Ob) (g : Glb) (o a : Int) : Nat → List Int
 | 0 => []
 | i + 1 => wdL l g o a i ++ [wdV l g o (a + i)]
def wdP (l : List Ob) (g : Glb) (o a : Int) (p : Int) : Nat → List Int
 | 0 => []
 | i + 1 => wdP l g o a p i ++ if wdC l g o (a + i) = true then [p + i] else []
def ckC (l : List Ob) (g : Glb) (n : Nat) : List Int :=
 if itB (itF l g) n = false then wdL l g (itO l n).1 (itO l n).2 (itS (itF l g) n).toNat
 else if (loF l g).getD n false = true then [wordW ((itI l n).op - 16 + 19) (itI l n).a (itI l n).b 0 (adrL l g (itTo l g n)), adrL l g (itTo l g n)]
 else [wordW (itI l n).op (itI l n).a (itI l n).b (disp8 (plN l g (itG (itF l g) n).toNat - plN l g n)) (itI l n).imm]
def ckP (l : List Ob) (g : Glb) (n : Nat) (p : Int) : List Int :=
 if itB (itF l g) n = false then wdP l g (itO l n).1 (itO l n).2 p (itS (itF l g) n).toNat
 else if (loF l g).getD n false = true then [p + 1] else []
theorem wdL_len (l : List Ob) (g : Glb) (o a : Int) : ∀ i, (wdL l g o a i).length = i
 | 0 => rfl
 | i + 1 => by rw [wdL, List.length_append, wdL_len l g o a i]; rfl
theorem wdN_eq (l : List Ob) (g : Glb) (o a : Int) (x : Img) : ∀ i, wdN l g o a x i = { x with code := x.code ++ wdL l g o a i, places := x.places ++ wdP l g o a x.code.length i }
 | 0 => by simp [wdN, wdL, wdP]
 | i + 1 => by
  rw [wdN, wdN_eq l g o a x i, wdM, wdL, wdP]
  simp only [Img.mk.injEq, true_and, and_true]
  refine ⟨List.append_assoc _ _ _, ?_⟩
  split
  ·simp only [List.length_append, wdL_len]
   rw [List.append_assoc]; congr 2
  ·rw [List.append_nil]
theorem ptM_eq (l : List Ob) (g : Glb) (n : Nat) (x : Img) : ptM l g n x = { x with code := x.code ++ ckC l g n, places := x.places ++ ckP l g n x.code.length, starts := x.starts ++ ckS l n x.code.length } := by
 have hS : ptS l n x = { x with starts := x.starts ++ ckS l n x.code.length } := by
  unfold ptS ckS; split
  ·rfl
  ·simp
 unfold ptM ckC ckP
 rw [hS]
 split
 ·rw [wdN_eq]
 ·split
  ·rfl
  ·simp
theorem ckC_len {l : List Ob} {g : Glb} (G : NmG l g) {n : Nat} (hn : n < oBs l l.length) : ((ckC l g n).length : Int) = itS (itF l g) n + if (loF l g).getD n false = true then 1 else 0 := by
 unfold ckC
 have z := itF_size l g hn
 by_cases hb : itB (itF l g) n = false
 ·rw [if_pos hb, wdL_len, if_neg fun h => by rw [lo_br h] at hb; cases hb]; omega
 ·rw [if_neg hb]
  obtain ⟨o, w, I⟩ := itAt hn
  have := I.one G (by simpa using hb)
  split
  ·rw [this]; rfl
  ·rw [this]; rfl
theorem ptN_pos {l : List Ob} {g : Glb} (G : NmG l g) : ∀ n, n ≤ oBs l l.length → ((ptN l g n).code.length : Int) = plN l g n
 | 0, _ => rfl
 | n + 1, h => by
  have ih := ptN_pos G n (by omega)
  have hc := ckC_len G (show n < oBs l l.length by omega)
  rw [ptN, ptM_eq]
  show (((ptN l g n).code ++ ckC l g n).length : Int) = plS (itF l g) (loF l g) (n + 1)
  rw [List.length_append, plS]
  have : plS (itF l g) (loF l g) n = plN l g n := rfl
  omega
theorem code_len {l : List Ob} {g : Glb} (K : LkOk l g) : ((imgM l g).code.length : Int) = plN l g (oBs l l.length) := by
 unfold imgM; rw [K.bs.2.1]; exact ptN_pos K.nm _ (Nat.le_refl _)
theorem VOb.add {o : Ob} (v : VOb o) {j : Nat} (hj : j < o.crels.length) (ha : (o.crels.getD j RT.rel.dflt).add ≠ 0) : (o.syms.getD (o.crels.getD j RT.rel.dflt).sym.toNat RT.sym.dflt).in_ = 1 := by
 obtain ⟨_, _, _, _, c5, _, _, c8, _⟩ := v.crel hj _ rfl
 unfold shapeB at c8
 rcases c5 with h | h
 ·rw [if_neg (by omega)] at c8
  split at c8
  ·cases c8
  ·rename_i h1
   simp only [Bool.and_eq_true, Bool.not_eq_true', decide_eq_false_iff_not, not_and, Bool.not_eq_false] at h1
   simpa using h1 ha
 ·rw [if_pos h] at c8
  simp only [Bool.and_eq_true, decide_eq_true_eq] at c8
  exact absurd c8.2 ha
end Go.Proofs.YtacmmedhjebfjaaGreatDoor
set_option linter.unusedVariables false
set_option linter.unusedSimpArgs false
namespace Go.Proofs.YtacmmedhjebfjaaGreatDoor
open Go.RowKit Go.Sy Go.Fac
def NoData (l : List Ob) (g : Glb) : Prop := ∀ i, i < l.length → toO l g i = false
theorem NoData.at_ {l : List Ob} {g : Glb} (T : NoData l g) (G : NmG l g) {o k : Nat} (ho : o < l.length) (hk : k < (obN l o).crels.length) (hj : jumpsB (obN l o).code (obN l o).map (relN l o k).at_ (relN l o k).kind = true) :
  Own l (realM l g o (relN l o k).sym) ∧ (symAt l (realM l g o (relN l o k).sym).1 (realM l g o (relN l o k).sym).2).in_ = 2 := by
 have h := T o ho
 unfold toO at h
 rw [decide_eq_false_iff_not, Decidable.not_not] at h
 have h := idxM_all h k hk
 unfold toB at h
 rw [hj, Bool.true_and, decide_eq_false_iff_not] at h
 obtain ⟨_, _, c3, c4, _⟩ := (G.val o ho).crel hk _ rfl
 have O := G.own ho c3 c4
 refine ⟨O, ?_⟩
 obtain ⟨o', s', e, h1, h2, h3⟩ := O
 have e' : realM l g o (relN l o k).sym = ((o' : Int), (s' : Int)) := e
 rw [e'] at h ⊢
 simp only [symAt_nat] at h ⊢
 rcases Own.in12 G h1 h2 h3 with h4 | h4
 ·exact absurd h4 h
 ·exact h4
theorem VOb.first {o : Ob} (v : VOb o) {j : Nat} (hj : j < o.crels.length) {w : Nat} (hw : (o.crels.getD j RT.rel.dflt).at_ = w) (hm : o.map.getD w 0 = 1) : (o.crels.getD j RT.rel.dflt).kind = 2 := by
 obtain ⟨_, _, _, _, c5, _, _, c8, _⟩ := v.crel hj _ rfl
 rcases c5 with h | h
 ·unfold shapeB at c8
  rw [if_neg (by omega)] at c8
  split at c8
  ·cases c8
  ·rw [hw, Int.toNat_natCast, hm] at c8
   rw [if_neg (by decide)] at c8
   simp at c8
 ·exact h
end Go.Proofs.YtacmmedhjebfjaaGreatDoor
set_option linter.unusedVariables false
set_option linter.unusedSimpArgs false
set_option linter.unusedSectionVars false
namespace Go.Proofs.YtacmmedhjebfjaaGreatDoor
open Go.RowKit Go.Sy Go.Fac
section
variable {ea : Ear} {has : Int → Prop} {rest : List (Nat × SVal)} [ht : Nonempty (EType ea)]
def kObjectR : List SVal → Nat → Acc ORes := fun a n => match a with | [.ro .u32 dd, .ro .line ls] => .ret ({ v := obV dd (oAll ls).code (oAll ls).map (nilR .rel) (oAll ls).cr (oAll ls).sy, vc := some (ls.length ≤ 100000 ∧ shortN dd) }) | _ => .fail "ObjectR"
theorem argObjectR (dd : List Int) (ls : List Ln) : (all (subL tAtN none' [] deep [.ro .u32 dd, .ro .line ls] [.ro .u32 dd, .ro .line ls])) = (
 dd = dd ∧ ls = ls) := by kernel_rfl
theorem runObjectR (rest : List (Nat × SVal)) (dd : List Int) (ls : List Ln) : (Tr.sat (plainQ (obV dd (oAll ls).code (oAll ls).map (nilR .rel) (oAll ls).cr (oAll ls).sy)) (run (env (G7 ++ rest) [(18, kWords), (19, kSym), (20, krWord), (21, krTwo)]) [(3, LObj dd ls)] (bodyOf Tryz.f10) (start [.ro .u32 dd, .ro .line ls] 132) (ends (env (G7 ++ rest) [(18, kWords), (19, kSym), (20, krWord), (21, krTwo)]) Tryz.f10.results.toList))) = (
 RQ (List.length dd ≤ 1000000) (RQ (List.length ls ≤ 100000 ∧ ls = ls ∧ (0 : Int) = (↑(0 : Nat) : Int) ∧ dd = dd ∧ (oSt ls (0 : Nat)).code = @List.nil (RT.ty RT.u32) ∧ (oSt ls (0 : Nat)).map = @List.nil (RT.ty RT.u8) ∧ (oSt ls (0 : Nat)).cr = @List.nil (RT.ty RT.rel) ∧ (oSt ls (0 : Nat)).sy = @List.nil (RT.ty RT.sym)) (dd = dd ∧ (oAll ls).code = (oAll ls).code ∧ (oAll ls).map = (oAll ls).map ∧ nilR RT.rel = @List.nil (RT.ty RT.rel) ∧ (oAll ls).cr = (oAll ls).cr ∧ (oAll ls).sy = (oAll ls).sy))) := by kernel_rfl
set_option maxHeartbeats 4000000 in
theorem cObjectR : Con ea has (G7 ++ rest) 10 kObjectR := by
 refine plain_mkB Tryz.func10 132 (con := [(18, kWords), (19, kSym), (20, krWord), (21, krTwo)]) ⟨cWords, cSym, crWord, crTwo, trivial⟩ (fun hA hr hv => ?_) (by kernel_rfl) (by kernel_rfl) Tryz.ntmps10
 unfold kObjectR at hr; split at hr
 ·rename_i dd ls
  have := ret_ok hr; subst this
  replace hv := hv _ rfl
  refine ⟨_, [(3, LObj dd ls)], rfl, rfl, .of (argObjectR dd ls) (by simp), rfl, (fun W R ρ0 own0 hown => hl1 (by kernel_rfl) (by kernel_rfl) (lObj dd ls hown)), .of (runObjectR rest dd ls) ?_⟩
  delta RQ
  clear hr
  exact ⟨hv.2, fun _ => ⟨⟨hv.1, rfl, rfl, rfl, rfl, rfl, rfl, rfl⟩, fun _ => ⟨rfl, rfl, rfl, rfl, rfl, rfl⟩⟩⟩
 ·cases hr
abbrev kObjectRF := frz shObj kObjectR
theorem cObjectRF : Con ea has (G7 ++ rest) 10 kObjectRF := frz_ok cObjectR shObj
abbrev kLinkF := frz [.ro .obj] kLinkC
theorem cLinkF : Con ea has (G7 ++ rest) 11 kLinkF := frz_ok cLinkC _
def kfirst13 : List SVal → Nat → Acc ORes := fun a n => match a with | [] => .ret ({ v := .bool (.lit true) }) | _ => .fail "first13"
theorem argfirst13  : (all (subL tAtN none' [] deep [] [])) = (
 True) := by kernel_rfl
theorem runfirst13 (rest : List (Nat × SVal)) : (Tr.sat (plainQ (.bool (.lit true))) (run (env (G7 ++ rest) [(7, kAt), (9, kOp), (10, kObjectRF), (11, kLinkF)]) [] (bodyOf Tryz.f5) (start [] 25) (ends (env (G7 ++ rest) [(7, kAt), (9, kOp), (10, kObjectRF), (11, kLinkF)]) Tryz.f5.results.toList))) = (
 RQ (List.length [Ln.mk (In5.mk (0 : Int) (0 : Int) (0 : Int) (0 : Int) (0 : Int)) (ByteArray.mk #[(109 : UInt8), (97 : UInt8), (105 : UInt8), (110 : UInt8)]) ByteArray.empty false, opL (1 : Int) (nilR RT.i64)] ≤ 100000 ∧ shortN (@List.nil (RT.ty RT.u32))) (true = true)) := by kernel_rfl
set_option maxHeartbeats 4000000 in
theorem cfirst13 : Con ea has (G7 ++ rest) 5 kfirst13 := by
 refine plain_mkB Tryz.func5 25 (con := [(7, kAt), (9, kOp), (10, kObjectRF), (11, kLinkF)]) ⟨cAt, cOp, cObjectRF, cLinkF, trivial⟩ (fun hA hr hv => ?_) (by kernel_rfl) (by kernel_rfl) Tryz.ntmps5
 unfold kfirst13 at hr; split at hr
 ·skip
  have := ret_ok hr; subst this
  refine ⟨_, [], rfl, rfl, .of (argfirst13 ) (by simp), rfl, (fun W R ρ0 own0 hown => noSums (by kernel_rfl)), .of (runfirst13 rest ) ?_⟩
  delta RQ
  clear hr
  exact ⟨⟨by simp, Nat.zero_le _⟩, fun _ => rfl⟩
 ·cases hr
end
end Go.Proofs.YtacmmedhjebfjaaGreatDoor
