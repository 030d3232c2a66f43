/- Contracts that the proofs use. -/
import Derived.Test.YtacmmedhjebfjaaDoorQLinkOrder7
import Derived.Lib.ItoaLen
import Derived.Test.YtacmmedhjebfjaaDoorRows
set_option linter.unusedVariables false
set_option linter.unusedSimpArgs false
set_option linter.unusedSectionVars false
namespace Go.Proofs.YtacmmedhjebfjaaDoor
open Go.RowKit Go.Sy Go.Fac
structure Pow (ea : Ear) : Prop where
 pow : ∃ T s, ea.fix 8 = some (.cells (Lib.pow10Tab.map fun z => Value.int .u64 z).toArray T s)
theorem Trans.grown {C : Ctx} {gl : List (Nat × SVal)} {W : World} {R : Nat → Prop} {ρ : Nat → Option Value} {h : Nat → Option Cont} (M : Mem C gl W R ρ h) {k : Nat} {os : Array Obj} :
  Trans C gl W R ρ h [] (Sort.grow (W.drewN k) os) R ρ :=
 Trans.gen M rfl rfl rfl (by simp [Sort.grow, World.drewN]) (fun _ _ h => h) (fun _ _ h => .inl h)
  (fun j hj _ => by show (W.heap ++ os)[j]? = W.heap[j]?; exact Array.getElem?_append_left hj)
  (fun _ r c hf => by cases hf) (fun r r' c c' hf => by cases hf)
section
variable {ea : Ear} {has : Int → Prop} {gl : List (Nat × SVal)} [hpw : Nonempty (Pow ea)]
def itoaB (n : Int) : ByteArray := if -9223372036854775808 ≤ n ∧ n ≤ 9223372036854775807 then ⟨(Lib.itoa n).toArray⟩ else ByteArray.empty
theorem itoaB_of {n : Int} (h0 : -9223372036854775808 ≤ n) (h1 : n ≤ 9223372036854775807) : itoaB n = ⟨(Lib.itoa n).toArray⟩ := if_pos ⟨h0, h1⟩
theorem itoaB_size (n : Int) : (itoaB n).size ≤ 21 := by
 unfold itoaB; split
 ·rename_i h; exact Lib.itoa_length_le _ h.1 h.2
 ·decide
def kItoa : List SVal → Nat → Acc ORes := fun a n => match a with | [.int .i64 x] => .ret { v := .str (itoaB x.val) } | _ => .fail "Itoa"
theorem cItoa : Con ea has gl 37 kItoa where
 call := enters Tryd.func37 (c := bodyOf Tryd.f37) (by kernel_rfl) (by kernel_rfl)
 does {W R ρ h args vs next r l l'} M hA hr hv hn := by
  unfold kItoa at hr; split at hr
  ·rename_i x
   have := ret_ok hr; subst this
   have hi := DenA.i0 hA
   obtain ⟨⟨T, s, hf⟩⟩ := hpw
   have tab : Lib.TabIs Tryd.prog W "internal/strconv.uint64pow10" .u64 Lib.pow10Tab := by
    unfold Lib.TabIs World.var?
    rw [show Tryd.prog.globalNamed "internal/strconv.uint64pow10" = some 8 from by kernel_rfl, Option.bind_some, (M.base.fix _ _ hf).2]
   cases hA with | cons _ v _ us h1 h2 => ?_
   cases h2
   obtain ⟨rfl, _⟩ := h1.int_inv
   exact (Tryd.strconv_Itoa x.val hi.lo hi.hi W tab).mono fun e w' ⟨he, k, os, hw⟩ => ⟨_, R, ρ, he, hw ▸ Trans.grown M, itoaB_of hi.lo hi.hi ▸ .str _ (Nat.le_trans (itoaB_size _) (by decide))⟩
  ·cases hr
def kNum : List SVal → Nat → Acc ORes := fun a n => match a with | [.int .i64 n] => .ret ({ v := .str (itoaB n.val) }) | _ => .fail "Num"
theorem argNum (n : SI) : (all (subL tAtN none' [] deep [.int .i64 n] [.int .i64 (.full n.val)])) = (
 SI.val n = SI.val n) := by kernel_rfl
theorem runNum (gl : List (Nat × SVal)) (n : Int) : (Tr.sat (plainQ (.str (itoaB n))) (run (env gl [(37, kItoa)]) [] (bodyOf Tryd.f25) (start [.int .i64 (.full n)] 5) (ends (env gl [(37, kItoa)]) Tryd.f25.results.toList))) = (
 itoaB n = itoaB n) := by kernel_rfl
set_option maxHeartbeats 4000000 in
theorem cNum : Con ea has gl 25 kNum := by
 refine plain_mkB Tryd.func25 5 (con := [(37, kItoa)]) ⟨cItoa, trivial⟩ (fun hA hr hv => ?_) (by kernel_rfl) (by kernel_rfl) Tryd.ntmps25
 unfold kNum at hr; split at hr
 ·rename_i n
  have := ret_ok hr; subst this
  refine ⟨_, [], rfl, rfl, .of (argNum n) (by simp), rfl, (fun W R ρ0 own0 hown => noSums (by kernel_rfl)), .of (runNum gl n.val) ?_⟩
  clear hr
  rfl
 ·cases hr
end
end Go.Proofs.YtacmmedhjebfjaaDoor
set_option linter.unusedVariables false
set_option linter.unusedSimpArgs false
namespace Go.Proofs.YtacmmedhjebfjaaDoor
open Go.RowKit Go.Sy Go.Fac
theorem firstE_none {f : Nat → FErr} : ∀ {n : Nat}, (∀ i, i < n → (f i).isErr = false) → firstE f n = .fine
 | 0, _ => rfl
 | n + 1, h => firstE_fine (firstE_none fun i hi => h i (by omega)) (h n (by omega))
theorem vBE_ok {o : Ob} (h1 : o.code.length ≤ 2048) (h2 : o.map.length = o.code.length) (h3 : o.data.length ≤ 2048) (h4 : o.drels.length ≤ 1024) (h5 : o.crels.length ≤ 1024) (h6 : o.syms.length ≤ 256)
  (h7 : ∀ i, i < o.code.length → (wordBE o.code o.map i).isErr = false) (h8 : ∀ i, i < o.syms.length → (syE o.data o.code o.map o.syms i).isErr = false)
  (h9 : ∀ i, i < o.drels.length → (drE o.data o.drels o.syms i).isErr = false) (h10 : ∀ i, i < o.crels.length → (crE o.code o.map o.crels o.syms i).isErr = false) (h11 : ∀ i, i < o.code.length → (needE o.code o.map o.crels i).isErr = false) : vBE o = .fine := by
 have e1 : manyB o.data o.code o.drels o.crels o.syms = false := by
  unfold manyB
  simp only [Bool.or_eq_false_iff, decide_eq_false_iff_not]; omega
 have e3 : firstE (wdBE o.code o.map) o.code.length = .fine := firstE_none h7
 have e4 := firstE_none h8
 have e5 := firstE_none h9
 have e6 := firstE_none h10
 have e7 := firstE_none h11
 unfold vBE validBE relocsE
 rw [if_neg (by rw [e1]; simp), if_neg (by simp; omega), e3, e4, e5, e6, e7]
 simp [FErr.isErr]
def Uniq (l : List Ob) : Prop := ∀ o s o' s' : Nat, o < l.length → o' < l.length → s < (obN l o).syms.length → s' < (obN l o').syms.length → expS (syO l o s) → expS (syO l o' s') → (syO l o s).name = (syO l o' s').name → o = o' ∧ s = s'
theorem nmS_ok {l : List Ob} (U : Uniq l) {i : Nat} (hi : i < l.length) {g : Glb} (h0 : NmI l i 0 g) : ∀ j, j ≤ (obN l i).syms.length → (nmS i (obN l i).syms g j).1 = .fine
 | 0, _ => rfl
 | j + 1, hj => by
  have ih := nmS_ok U hi h0 j (by omega)
  have I := nmS_inv h0 j (by omega) ih
  rw [nmS, if_neg (by rw [ih]; simp [FErr.isErr])]
  show (nmStep i j (syO l i j) _).1 = .fine
  unfold nmStep
  by_cases hx : expB (syO l i j) = false
  ·rw [if_pos hx]
  ·rw [if_neg hx]
   have hx : expS (syO l i j) := expB_iff.1 (by simpa using hx)
   by_cases hh : glH (nmS i (obN l i).syms g j).2 (syO l i j).name = true
   ·obtain ⟨o, s, _, h2, h3, h4, h5⟩ := I.fnd _ hh
    obtain ⟨rfl, rfl⟩ := U o s i j (by omega) hi h3 (by omega) h5 hx h4
    omega
   ·rw [if_neg hh]
theorem nmO_ok {l : List Ob} (U : Uniq l) (hv : ∀ i, i < l.length → vBE (obN l i) = .fine) : ∀ i, i ≤ l.length → (nmO l i).1 = .fine
 | 0, _ => rfl
 | i + 1, h => by
  have ih := nmO_ok U hv i (by omega)
  rw [nmO, if_neg (by rw [ih]; simp [FErr.isErr]), if_neg (by rw [hv i (by omega)]; simp [FErr.isErr])]
  exact nmS_ok U (by omega) (nmO_inv l i ih).1 _ (Nat.le_refl _)
theorem glG_at {l : List Ob} (hf : (nmO l l.length).1 = .fine) {o s : Nat} (ho : o < l.length) (hs : s < (obN l o).syms.length) (hx : expS (syO l o s)) : glH (nmG l) (syO l o s).name = true ∧ glG (nmG l) (syO l o s).name = ((o : Int), (s : Int)) :=
 (nmO_inv l _ hf).1.all o s (.inl ho) hs hx
theorem real_abs {l : List Ob} {g : Glb} {i s : Nat} (h : (syO l i s).in_ = 3) : realM l g i s = glG g (syO l i s).name := by
 unfold realM
 rw [symAt_nat, if_pos h]; rfl
theorem plS_two {l : List Ob} {g : Glb} (G : NmG l g) : ∀ n, n ≤ oBs l l.length → plN l g n ≤ 2 * n
 | 0, _ => Int.le_refl _
 | n + 1, h => by
  have ih := plS_two G n (by omega)
  have hc := itF_size l g (show n < oBs l l.length by omega)
  show plS (itF l g) (loF l g) (n + 1) ≤ _
  have ih : plS (itF l g) (loF l g) n ≤ 2 * n := ih
  rw [plS]
  split
  ·rename_i hlo
   obtain ⟨o, w, I⟩ := itAt (l := l) (show n < oBs l l.length by omega)
   have := I.one G (lo_br hlo)
   omega
  ·omega
theorem sumS_two (l : List Ob) (g : Glb) : sumS (itF l g) (itF l g).length ≤ 2 * (oBs l l.length : Nat) := by
 have h := sumS_le l g (itF l g).length (by rw [brO_len]; exact Nat.le_refl _)
 have e : (itF l g).length = oBs l l.length := brO_len l g _
 rw [e] at h ⊢; exact h.2
structure Lks (l : List Ob) : Prop where
 few : l.length ≤ 16
 val : ∀ i, i < l.length → vBE (obN l i) = .fine
 uniq : Uniq l
 abs : ∀ i s, i < l.length → s < (obN l i).syms.length → (syO l i s).in_ = 3 → ∃ o t, o < l.length ∧ t < (obN l o).syms.length ∧ expS (syO l o t) ∧ (syO l o t).name = (syO l i s).name
 jump : ∀ i j, i < l.length → j < (obN l i).crels.length → jumpsB (obN l i).code (obN l i).map (relN l i j).at_ (relN l i j).kind = true →
  ∃ o t, o < l.length ∧ t < (obN l o).syms.length ∧ (syO l o t).in_ ≠ 1 ∧ realM l (nmG l) i (relN l i j).sym = (((o : Nat) : Int), ((t : Nat) : Int))
 main : ∃ o t, o < l.length ∧ t < (obN l o).syms.length ∧ expS (syO l o t) ∧ (syO l o t).name = mainT ∧ (syO l o t).in_ = 2
theorem Lks.names {l : List Ob} (L : Lks l) : namesE l = .fine ∧ (nmO l l.length).1 = .fine ∧ NmG l (nmG l) := by
 have hf := nmO_ok L.uniq L.val l.length (Nat.le_refl _)
 have h2 : idxM (noneO l (nmG l)) l.length = l.length := idxM_none fun i hi => by
  unfold noneO
  rw [decide_eq_false_iff_not, Decidable.not_not]
  refine idxM_none fun s hs => ?_
  unfold noneB
  by_cases h3 : (syO l i s).in_ = 3
  ·obtain ⟨o, t, h4, h5, h6, h7⟩ := L.abs i s hi hs h3
   have := (glG_at hf h4 h5 h6).1
   rw [h7] at this
   rw [this]; simp
  ·rw [decide_eq_false h3]; rfl
 have h3 : idxM (toO l (nmG l)) l.length = l.length := idxM_none fun i hi => by
  unfold toO
  rw [decide_eq_false_iff_not, Decidable.not_not]
  refine idxM_none fun j hj => ?_
  unfold toB
  by_cases hJ : jumpsB (obN l i).code (obN l i).map (relN l i j).at_ (relN l i j).kind = true
  ·obtain ⟨o, t, _, _, h5, h6⟩ := L.jump i j hi hj hJ
   rw [hJ, h6]
   simp only [symAt_nat]
   rw [decide_eq_false h5]; rfl
  ·rw [show jumpsB (obN l i).code (obN l i).map (relN l i j).at_ (relN l i j).kind = false by simpa using hJ]; rfl
 have h4 : noMain l (nmG l) = false := by
  obtain ⟨o, t, m1, m2, m3, m4, m5⟩ := L.main
  obtain ⟨g1, g2⟩ := glG_at hf m1 m2 m3
  rw [m4] at g1 g2
  unfold noMain
  rw [g1, g2]
  simp only [symAt_nat, m5]; rfl
 refine ⟨?_, hf, nmG_ok L.few hf h2⟩
 unfold namesE
 rw [if_neg (by rw [hf]; simp [FErr.isErr]), if_neg (by rw [h2]; simp), if_neg (by rw [h3]; simp), if_neg (by rw [h4]; simp)]
theorem Lks.ok {l : List Ob} (L : Lks l) (hd : oDn l l.length ≤ 2048) (hw : oBs l l.length ≤ 1024) : laidE l = .fine := by
 obtain ⟨h1, _, G⟩ := L.names
 have hs := sumS_two l (nmG l)
 have e : (itF l (nmG l)).length = oBs l l.length := brO_len l (nmG l) _
 have hp := plS_two G (oBs l l.length) (Nat.le_refl _)
 have hm : manyL l (nmG l) = false := by
  unfold manyL
  rw [Bool.or_eq_false_iff, decide_eq_false_iff_not, decide_eq_false_iff_not]; omega
 have hp' : plS (itF l (nmG l)) (rlx (itF l (nmG l))) (itF l (nmG l)).length ≤ 2048 := by
  rw [e]; exact Int.le_trans hp (by omega)
 unfold laidE layE
 rw [if_neg (by have := L.few; omega), h1, if_neg (by simp [FErr.isErr]), if_neg (by rw [hm]; simp), if_neg (by omega)]
theorem linkI_ok {l : List Ob} (h : laidE l = .fine) : linkI l = imgM l (nmG l) := by
 unfold linkI; rw [h]; rfl
theorem oSt_fold (ls : List Ln) : ∀ i, i ≤ ls.length → oSt ls i = (ls.take i).foldl (fun s x => oStep x s) ⟨[], [], [], []⟩
 | 0, _ => rfl
 | i + 1, h => by
  rw [oSt, oSt_fold ls i (by omega), take_get1 ls RT.line.dflt (show i < ls.length by omega), List.foldl_append]; rfl
theorem oAll_fold (ls : List Ln) : oAll ls = ls.foldl (fun s x => oStep x s) ⟨[], [], [], []⟩ := by
 rw [oAll, oSt_fold ls _ (Nat.le_refl _), List.take_length]
theorem fold_nop (n : Nat) (s : OS) : (List.replicate n (opL 1 [])).foldl (fun s x => oStep x s) s = { s with code := s.code ++ List.replicate n 16777216, map := s.map ++ List.replicate n 1 } := by
 induction n generalizing s with
 | zero => simp
 | succ n ih =>
  rw [List.replicate_succ, List.foldl_cons, ih]
  have e : oStep (opL 1 []) s = { s with code := s.code ++ [16777216], map := s.map ++ [1] } := rfl
  rw [e]
  simp only [OS.mk.injEq, true_and, and_true]
  refine ⟨?_, ?_⟩ <;> (rw [List.append_assoc, List.replicate_succ]; rfl)
theorem getD_rep {α : Type} (n : Nat) (x d : α) {i : Nat} (h : i < n) : (List.replicate n x).getD i d = x := by
 rw [List.getD_eq_getElem?_getD, List.getElem?_replicate, if_pos h]; rfl
end Go.Proofs.YtacmmedhjebfjaaDoor
set_option linter.unusedVariables false
set_option linter.unusedSimpArgs false
namespace Go.Proofs.YtacmmedhjebfjaaDoor
open Go.RowKit Go.Sy Go.Fac
def mkO (d : List Int) (ls : List Ln) : Ob := ⟨d, (oAll ls).code, (oAll ls).map, [], (oAll ls).cr, (oAll ls).sy⟩
theorem beg_of {c m : List Int} {i : Nat} (hi : i < c.length) (hm : m.length = c.length) (h1 : m.getD i 0 = 1) : begM c m i = true := by
 unfold begM
 rw [Int.toNat_natCast, h1, decide_eq_false (by omega), decide_eq_false (by omega), decide_eq_false (by omega)]; rfl
theorem ins_of {c m : List Int} {i : Nat} (hi : i < c.length) (hm : m.length = c.length) (h1 : m.getD i 0 = 1) (hok : ofOk (c.getD i 0) = true) : insB c m i = true ∧ insI c m i = ofF (c.getD i 0) (nextW c i) ∧ (insI c m i).op = c.getD i 0 / 16777216 := by
 have hb := beg_of hi hm h1
 have e : insI c m i = ofF (c.getD i 0) (nextW c i) := by unfold insI; rw [if_pos hb, Int.toNat_natCast]
 refine ⟨by unfold insB; rw [hb, Int.toNat_natCast, hok]; rfl, e, by rw [e]; unfold ofF; rw [if_pos hok]⟩
theorem word_ok {c m : List Int} {i : Nat} (hi : i < c.length) (hm : m.length = c.length) (h1 : m.getD i 0 = 1) (hok : ofOk (c.getD i 0) = true) (hc : isaClass (c.getD i 0 / 16777216) ≠ 4) (ht : isaTwo (c.getD i 0 / 16777216) = false ∨ (i + 1 < c.length ∧ m.getD (i + 1) 0 = 0)) : (wordBE c m i).isErr = false := by
 obtain ⟨i1, _, i3⟩ := ins_of hi hm h1 hok
 have hcall : callB c m i = false := by unfold callB; rw [i3, decide_eq_false hc]; rfl
 unfold wordBE
 rw [Int.toNat_natCast, if_pos h1, i1, hcall, i3]
 rw [if_neg (by decide)]
 rcases ht with ht | ⟨ht, ht2⟩
 ·rw [ht]; rfl
 ·have e3 : ((i : Int) + 1).toNat = i + 1 := by omega
  rw [e3, ht2, decide_eq_false (by omega)]; simp [FErr.isErr]
theorem word_snd {c m : List Int} {i : Nat} (hi : i + 1 < c.length) (hm : m.length = c.length) (h0 : m.getD (i + 1) 0 = 0) (h1 : m.getD i 0 = 1) (hok : ofOk (c.getD i 0) = true) (ht : isaTwo (c.getD i 0 / 16777216) = true) : (wordBE c m ((i + 1 : Nat) : Int)).isErr = false := by
 obtain ⟨i1, _, i3⟩ := ins_of (show i < c.length by omega) hm h1 hok
 unfold wordBE
 rw [Int.toNat_natCast, h0, if_neg (by decide), if_pos rfl, show (((i + 1 : Nat) : Int) - 1) = (i : Int) by omega]
 unfold twoB
 rw [i1, i3, ht, decide_eq_false (by omega)]; rfl
theorem need_no {c m : List Int} {cr : List Rel} {i : Nat} (h : insB c m i = false ∨ (shortM (insI c m i).op = false ∧ farM (insI c m i).op = false ∧ (insI c m i).op ≠ 15)) : (needE c m cr i).isErr = false := by
 unfold needE
 rcases h with h | ⟨h1, h2, h3⟩
 ·rw [h]; simp [FErr.isErr]
 ·rw [h1, h2, decide_eq_false h3]; simp [FErr.isErr]
theorem need_far {c m : List Int} {cr : List Rel} {i : Nat} (h1 : shortM (insI c m i).op = false) (h : mapGet (atM cr cr.length) ((i : Int) + 1) = 1) : (needE c m cr i).isErr = false := by
 unfold needE
 rw [h1, h]; simp [FErr.isErr]
theorem syE_code {d c m : List Int} {sy : List Sm} {i : Nat} {x : Sm} (hx : sy.getD i RT.sym.dflt = x) (hn : symOk x.name = true) (hm : mapGet (mpS sy i) x.name = 0) (h2 : x.in_ = 2) (hv : 0 ≤ x.value) (hv2 : x.value < c.length) (hv3 : m.getD x.value.toNat 0 = 1) : (syE d c m sy i).isErr = false := by
 unfold syE symE
 rw [hx, hm, hn, if_neg (by decide), if_neg (by decide)]
 have : symFine d c m x.in_ x.value x.global = true := by
  unfold symFine
  rw [if_neg (by omega), if_pos h2, hv3, decide_eq_true hv, decide_eq_true hv2]; rfl
 rw [if_pos this]; rfl
theorem syE_abs {d c m : List Int} {sy : List Sm} {i : Nat} {x : Sm} (hx : sy.getD i RT.sym.dflt = x) (hn : symOk x.name = true) (hm : mapGet (mpS sy i) x.name = 0) (h2 : x.in_ = 3) (hv : x.value = 0) (hg : x.global = true) : (syE d c m sy i).isErr = false := by
 unfold syE symE
 rw [hx, hm, hn, if_neg (by decide), if_neg (by decide)]
 have : symFine d c m x.in_ x.value x.global = true := by
  unfold symFine
  rw [if_neg (by omega), if_neg (by omega), if_pos h2, hv, hg]; rfl
 rw [if_pos this]; rfl
theorem crE_word {c m : List Int} {cr : List Rel} {sy : List Sm} {i : Nat} {r : Rel} (hr : cr.getD i RT.rel.dflt = r) (h1 : 0 ≤ r.at_) (h2 : r.at_ < c.length) (h3 : lastR cr i < r.at_) (h4 : r.kind = 1) (h5 : 0 ≤ r.sym) (h6 : r.sym < sy.length) (h7 : r.add = 0) (h8 : insB c m (r.at_ - 1) = true) (h0 : m.getD r.at_.toNat 0 = 0) (h9 : (insI c m (r.at_ - 1)).op = 15 ∨ farM (insI c m (r.at_ - 1)).op = true ∧ (sy.getD r.sym.toNat RT.sym.dflt).in_ ≠ 1) : (crE c m cr sy i).isErr = false := by
 have e : relocE sy.length r.at_ r.kind r.sym r.add (lastR cr i) c.length 2 = .fine := by
  unfold relocE relocB
  rw [decide_eq_false (by omega : ¬ r.at_ < 0), decide_eq_false (by omega : ¬ (c.length : Int) ≤ r.at_), decide_eq_false (by omega : ¬ r.at_ ≤ lastR cr i), decide_eq_false (by omega : ¬ r.kind < 1), decide_eq_false (by omega : ¬ 2 < r.kind), decide_eq_false (by omega : ¬ r.sym < 0), decide_eq_false (by omega : ¬ (sy.length : Int) ≤ r.sym), decide_eq_false (by omega : ¬ r.add < -65536), decide_eq_false (by omega : ¬ 65536 < r.add)]; rfl
 have s : shapeB c m sy r.at_ r.kind r.sym r.add = true := by
  unfold shapeB
  simp only
  rw [if_neg (by omega), h7, if_neg (by simp), if_neg (by omega), h8, h0]
  rcases h9 with h9 | ⟨h9, h10⟩
  ·rw [decide_eq_true h9]; simp
  ·rw [h9, decide_eq_false h10]; simp
 unfold crE
 simp only
 rw [hr, e, s]; rfl
end Go.Proofs.YtacmmedhjebfjaaDoor
set_option linter.unusedVariables false
set_option linter.unusedSimpArgs false
namespace Go.Proofs.YtacmmedhjebfjaaDoor
open Go.RowKit Go.Sy Go.Fac
def fT (k : Nat) : ByteArray := ⟨#[102]⟩ ++ itoaB k
def nmT (k : Nat) : ByteArray := if k = 0 then mainT else fT k
theorem all2 {n : Nat} {f : Nat → Nat → Bool} (h : ((List.range n).all fun j => (List.range n).all fun k => f j k) = true) {j k : Nat} (hj : j < n) (hk : k < n) : f j k = true :=
 List.all_eq_true.1 (List.all_eq_true.1 h j (List.mem_range.2 hj)) k (List.mem_range.2 hk)
theorem nm_inj {j k : Nat} (hj : j < 18) (hk : k < 18) (h : nmT j = nmT k) : j = k := by
 have := all2 (n := 18) (f := fun j k => decide (nmT j = nmT k → j = k)) (by decide +kernel) hj hk
 exact of_decide_eq_true this h
theorem nm_ok {k : Nat} (hk : k < 18) : symOk (nmT k) = true := by
 have : ((List.range 18).all fun k => symOk (nmT k)) = true := by decide +kernel
 exact List.all_eq_true.1 this k (List.mem_range.2 hk)
theorem nm_ne {k : Nat} (hk : k < 18) : nmT k ≠ ByteArray.empty := by
 have : ((List.range 18).all fun k => decide (nmT k ≠ ByteArray.empty)) = true := by decide +kernel
 exact of_decide_eq_true (List.all_eq_true.1 this k (List.mem_range.2 hk))
theorem fold_at {a : ByteArray} (h : a ≠ ByteArray.empty) : oStep ⟨⟨0, 0, 0, 0, 0⟩, a, ByteArray.empty, false⟩ (⟨[], [], [], []⟩ : OS) = ⟨[], [], [], [⟨a, 2, 0, true⟩]⟩ := by
 unfold oStep
 rw [if_pos h]; rfl
end Go.Proofs.YtacmmedhjebfjaaDoor
set_option linter.unusedVariables false
set_option linter.unusedSimpArgs false
namespace Go.Proofs.YtacmmedhjebfjaaDoor
open Go.RowKit Go.Sy Go.Fac
end Go.Proofs.YtacmmedhjebfjaaDoor
set_option linter.unusedVariables false
set_option linter.unusedSimpArgs false
namespace Go.Proofs.YtacmmedhjebfjaaDoor
open Go.RowKit Go.Sy Go.Fac
def NoBr (l : List Ob) : Prop := ∀ i j, i < l.length → j < (obN l i).crels.length → (relN l i j).kind ≠ 2
theorem nobr_itF {l : List Ob} (h : NoBr l) (g : Glb) : itF l g = oIt l l.length := by
 have hJ : ∀ i, i < l.length → ∀ its j, j ≤ (obN l i).crels.length → brJ l g i its j = its := fun i hi its j => by
  induction j with
  | zero => intro _; rfl
  | succ j ih => intro hj; rw [brJ, ih (by omega), brS, if_neg (h i j hi (by omega))]
 have hO : ∀ i, i ≤ l.length → brO l g i = oIt l l.length := fun i => by
  induction i with
  | zero => intro _; rfl
  | succ i ih => intro hi; rw [brO, ih (by omega)]; exact hJ i (by omega) _ _ (Nat.le_refl _)
 exact hO _ (Nat.le_refl _)
theorem nobr_b {l : List Ob} (h : NoBr l) (g : Glb) (n : Nat) : itB (itF l g) n = false := by rw [nobr_itF h]; exact (oIt_zero l _ n).2
theorem nobr_lo {l : List Ob} (h : NoBr l) (g : Glb) (n : Nat) : (loF l g).getD n false = false := by
 cases e : (loF l g).getD n false with
 | false => rfl
 | true => have := lo_br e; rw [nobr_b h] at this; cases this
theorem nobr_pl {l : List Ob} (h : NoBr l) (g : Glb) : ∀ n, plN l g n = sumS (itF l g) n
 | 0 => rfl
 | n + 1 => by
  have ih : plS (itF l g) (loF l g) n = sumS (itF l g) n := nobr_pl h g n
  show plS (itF l g) (loF l g) (n + 1) = sumS (itF l g) (n + 1)
  rw [plS, sumS, ih, nobr_lo h, if_neg (by decide), Int.add_zero]
def tl (c m : List Int) : Nat → Int
 | 0 => 0
 | w + 1 => tl c m w + if m.getD w 0 = 0 then 0 else szW c m w
def wdS (l : List Ob) : Nat → Int
 | 0 => 0
 | o + 1 => wdS l o + tl (obN l o).code (obN l o).map (obN l o).map.length
theorem sum_in {l : List Ob} (g : Glb) {o : Nat} (ho : o < l.length) (hs : sumS (itF l g) (oBs l o) = wdS l o) : ∀ w, w ≤ (obN l o).map.length → sumS (itF l g) (pix l o w) = wdS l o + tl (obN l o).code (obN l o).map w
 | 0, _ => by show sumS (itF l g) (oBs l o + 0) = _; rw [Nat.add_zero, hs]; exact (Int.add_zero _).symm
 | w + 1, hw => by
  have ih := sum_in g ho hs w (by omega)
  unfold pix at ih ⊢
  rw [rk, tl]
  by_cases hm : (obN l o).map.getD w 0 = 0
  ·rw [if_pos hm, if_pos hm, Nat.add_zero, ih]; omega
  ·rw [if_neg hm, if_neg hm, ← Nat.add_assoc, sumS, ih]
   have e : itS (itF l g) (pix l o w) = szW (obN l o).code (obN l o).map w := by
    rw [brO_size]; unfold itS
    rw [oIt_get l itT.dflt (by omega) hm l.length ho]
   unfold pix at e
   rw [e]; omega
theorem sum_at {l : List Ob} (g : Glb) : ∀ o, o ≤ l.length → sumS (itF l g) (oBs l o) = wdS l o
 | 0, _ => rfl
 | o + 1, ho => by
  have h := sum_in g (show o < l.length by omega) (sum_at g o (by omega)) _ (Nat.le_refl _)
  exact h
theorem nobr_at {l : List Ob} (h : NoBr l) (g : Glb) {o w : Nat} (ho : o < l.length) (hw : w ≤ (obN l o).map.length) : plN l g (pix l o w) = wdS l o + tl (obN l o).code (obN l o).map w := by
 rw [nobr_pl h, sum_in g ho (sum_at g o (by omega)) w hw]
theorem wdS_all {l : List Ob} {k : Int} (h : ∀ o, o < l.length → tl (obN l o).code (obN l o).map (obN l o).map.length = k) : ∀ o, o ≤ l.length → wdS l o = k * o
 | 0, _ => by simp [wdS]
 | o + 1, ho => by
  rw [wdS, wdS_all h o (by omega), h o (by omega), Int.natCast_succ, Int.mul_add, Int.mul_one]
theorem oBs_all {l : List Ob} {k : Nat} (h : ∀ o, o < l.length → rk (obN l o).map (obN l o).map.length = k) : ∀ o, o ≤ l.length → oBs l o = k * o
 | 0, _ => by simp [oBs]
 | o + 1, ho => by rw [oBs, oBs_all h o (by omega), h o (by omega), Nat.mul_succ]
theorem oDn_all {l : List Ob} {k : Int} (h : ∀ o, o < l.length → ((obN l o).data.length : Int) = k) : ∀ o, o ≤ l.length → oDn l o = k * o
 | 0, _ => by simp [oDn]
 | o + 1, ho => by rw [oDn, oDn_all h o (by omega), h o (by omega), Int.natCast_succ, Int.mul_add, Int.mul_one]
theorem nobr_code {l : List Ob} {g : Glb} (K : LkOk l g) (h : NoBr l) {o w i : Nat} (ho : o < l.length) (hw : w < (obN l o).map.length) (hm : (obN l o).map.getD w 0 ≠ 0) (hi : (i : Int) < szW (obN l o).code (obN l o).map w) :
  (imgM l g).code.getD ((wdS l o + tl (obN l o).code (obN l o).map w).toNat + i) 0 = wdV l g o ((w : Int) + i) ∧ (wdS l o + tl (obN l o).code (obN l o).map w).toNat + i < (imgM l g).code.length := by
 have I := itAt_of (l := l) ho hw hm
 have hb := nobr_b h g (pix l o w)
 have hs := (I.words K.nm).1
 have e : ckC l g (pix l o w) = wdL l g o w (szW (obN l o).code (obN l o).map w).toNat := by
  unfold ckC; rw [if_pos hb, I.own, hs]
 have hl : i < (ckC l g (pix l o w)).length := by rw [e, wdL_len]; omega
 obtain ⟨c1, c2⟩ := code_at K (n := pix l o w) (i := i) (pix_lt ho hw hm) hl
 rw [nobr_at h g ho (by omega)] at c1 c2
 refine ⟨?_, c2⟩
 rw [c1, e, wdL_get _ _ _ _ _ _ _ (by omega)]
theorem nobr_len {l : List Ob} {g : Glb} (K : LkOk l g) (h : NoBr l) : ((imgM l g).code.length : Int) = wdS l l.length := by
 rw [code_len K, nobr_pl h, sum_at g _ (Nat.le_refl _)]
end Go.Proofs.YtacmmedhjebfjaaDoor
set_option linter.unusedVariables false
set_option linter.unusedSimpArgs false
namespace Go.Proofs.YtacmmedhjebfjaaDoor
open Go.RowKit Go.Sy Go.Fac
def ringL (a b : ByteArray) (p : Nat) : List Ln := [⟨⟨0, 0, 0, 0, 0⟩, a, ByteArray.empty, false⟩, ⟨⟨19, 0, 0, 0, 0⟩, ByteArray.empty, b, false⟩] ++ List.replicate p (opL 1 [])
def ringC (p : Nat) : List Int := 318767104 :: 0 :: List.replicate p 16777216
def ringM (p : Nat) : List Int := 1 :: 0 :: List.replicate p 1
def ringO (a b : ByteArray) (p : Nat) : Ob := ⟨[], ringC p, ringM p, [], [⟨1, 1, 1, 0⟩], [⟨a, 2, 0, true⟩, ⟨b, 3, 0, true⟩]⟩
def ix (n f i : Nat) : Nat := if f + i < n then f + i else f + i - n
def nx (n k : Nat) : Nat := if k + 1 = n then 0 else k + 1
def rgA (n f i : Nat) : ByteArray := nmT (ix n f i)
def rgB (n f i : Nat) : ByteArray := nmT (nx n (ix n f i))
def rgO (n f p i : Nat) : Ob := ringO (rgA n f i) (rgB n f i) p
def rgU (n f p : Nat) (i : Nat) : List Ob := (List.range i).map (rgO n f p)
def rgN (n f : Nat) (i : Nat) : List ByteArray := (List.range i).map (rgB n f)
abbrev rg (n f p : Nat) : List Ob := rgU n f p n
theorem ix_lt {n f i : Nat} (hf : f < n) (hi : i < n) : ix n f i < n := by unfold ix; split <;> omega
theorem ix_inj {n f i j : Nat} (hf : f < n) (hi : i < n) (hj : j < n) (h : ix n f i = ix n f j) : i = j := by unfold ix at h; split at h <;> split at h <;> omega
theorem ix_on {n f k : Nat} (hf : f < n) (hk : k < n) : ∃ i, i < n ∧ ix n f i = k := by
 by_cases h : f ≤ k
 ·exact ⟨k - f, by omega, by unfold ix; rw [if_pos (by omega)]; omega⟩
 ·exact ⟨k + n - f, by omega, by unfold ix; rw [if_neg (by omega)]; omega⟩
theorem nx_lt {n k : Nat} (hk : k < n) : nx n k < n := by unfold nx; split <;> omega
theorem nx_ne {n k : Nat} (hn : 2 ≤ n) (hk : k < n) : nx n k ≠ k := by unfold nx; split <;> omega
theorem map_get {α : Type} (F : Nat → α) (d : α) {n i : Nat} (h : i < n) : ((List.range n).map F).getD i d = F i := by
 rw [List.getD_eq_getElem?_getD, List.getElem?_map, List.getElem?_range h]; rfl
theorem rg_len (n f p : Nat) : (rg n f p).length = n := by simp [rgU]
theorem rg_get {n f p i : Nat} (h : i < n) : obN (rg n f p) i = rgO n f p i := map_get _ _ h
theorem ringC_len (p : Nat) : (ringC p).length = p + 2 := by simp [ringC]
theorem ringM_len (p : Nat) : (ringM p).length = p + 2 := by simp [ringM]
theorem two_get (x y z : Int) {p i : Nat} (h : i < p) : (x :: y :: List.replicate p z).getD (i + 2) 0 = z := by
 have e0 : (x :: y :: List.replicate p z).getD (i + 2) 0 = (List.replicate p z).getD i 0 := by simp [List.getD_eq_getElem?_getD]
 rw [e0]; exact getD_rep _ _ _ h
theorem ringC_get {p i : Nat} (h : i < p) : (ringC p).getD (i + 2) 0 = 16777216 := two_get _ _ _ h
theorem ringM_get {p i : Nat} (h : i < p) : (ringM p).getD (i + 2) 0 = 1 := two_get _ _ _ h
theorem ring_mk {j k : Nat} (hj : j < 6) (hk : k < 6) (hjk : k ≠ j) (p : Nat) : mkO [] (ringL (nmT j) (nmT k) p) = ringO (nmT j) (nmT k) p := by
 have e1 : ([⟨⟨0, 0, 0, 0, 0⟩, nmT j, ByteArray.empty, false⟩, ⟨⟨19, 0, 0, 0, 0⟩, ByteArray.empty, nmT k, false⟩] : List Ln).foldl (fun s x => oStep x s) (⟨[], [], [], []⟩ : OS) = ⟨[318767104, 0], [1, 0], [⟨1, 1, 1, 0⟩], [⟨nmT j, 2, 0, true⟩, ⟨nmT k, 3, 0, true⟩]⟩ := by
  rw [List.foldl_cons, fold_at (nm_ne (by omega))]
  have : ∀ a b : ByteArray, (decide (a = b)) = false → b ≠ ByteArray.empty → oStep ⟨⟨19, 0, 0, 0, 0⟩, ByteArray.empty, b, false⟩ (⟨[], [], [], [⟨a, 2, 0, true⟩]⟩ : OS) = ⟨[318767104, 0], [1, 0], [⟨1, 1, 1, 0⟩], [⟨a, 2, 0, true⟩, ⟨b, 3, 0, true⟩]⟩ := fun a b hab hb => by
   have hs : nmP [⟨a, 2, 0, true⟩] b 0 = false := hab
   have hi : idxM (nmP [⟨a, 2, 0, true⟩] b) 1 = 1 := by
    rw [idxM_none]; intro i hi
    have : i = 0 := by omega
    subst this; exact hs
   have hsy : symI [⟨a, 2, 0, true⟩] b = 1 := hi
   have hsa : symAdd [⟨a, 2, 0, true⟩] b = [⟨a, 2, 0, true⟩, ⟨b, 3, 0, true⟩] := by
    unfold symAdd
    rw [hsy]; rfl
   unfold oStep
   rw [if_neg (fun h => h rfl), if_neg (fun h => Bool.noConfusion h)]
   unfold oIns
   have ht : isaTwo 19 = true := rfl
   simp only [ht]
   unfold oRel
   rw [if_neg hb, hsy, hsa]; rfl
  rw [List.foldl_cons, this _ _ (decide_eq_false fun e => hjk (nm_inj (by omega) (by omega) e).symm) (nm_ne (by omega))]; rfl
 unfold mkO
 rw [oAll_fold, ringL, List.foldl_append, e1, fold_nop]; rfl
theorem ring_word {p i : Nat} (h : i < p + 2) (h1 : i ≠ 1) : ofOk ((ringC p).getD i 0) = true ∧ (ringM p).getD i 0 = 1 ∧ isaClass ((ringC p).getD i 0 / 16777216) ≠ 4 ∧ ((ringC p).getD i 0 / 16777216 = if i = 0 then 19 else 1) := by
 match i with
 | 0 => exact ⟨by show ofOk 318767104 = true; decide, rfl, by show isaClass (318767104 / 16777216) ≠ 4; decide, rfl⟩
 | 1 => exact absurd rfl h1
 | i + 2 =>
  rw [ringC_get (by omega), ringM_get (by omega), if_neg (by omega)]
  exact ⟨by decide, rfl, by decide, by decide⟩
theorem ring_ins {p i : Nat} (h : i < p + 2) (h1 : i ≠ 1) : insB (ringC p) (ringM p) i = true ∧ (insI (ringC p) (ringM p) i).op = if i = 0 then 19 else 1 := by
 obtain ⟨w1, w2, _, w4⟩ := ring_word h h1
 obtain ⟨i1, _, i3⟩ := ins_of (c := ringC p) (m := ringM p) (i := i) (by rw [ringC_len]; exact h) (by rw [ringC_len, ringM_len]) w2 w1
 exact ⟨i1, by rw [i3, w4]⟩
theorem ring_one {p : Nat} : insB (ringC p) (ringM p) ((1 : Nat) : Int) = false := by
 have : begM (ringC p) (ringM p) ((1 : Nat) : Int) = false := by
  unfold begM
  rw [Int.toNat_natCast]
  have : (ringM p).getD 1 0 = 0 := rfl
  rw [this]; simp
 unfold insB; rw [this]; rfl
theorem ring_v {a b : ByteArray} (ha : symOk a = true) (hb : symOk b = true) (hab : a ≠ b) {p : Nat} (hp : p ≤ 100) : vBE (ringO a b p) = .fine := by
 have hc := ringC_len p
 have hm := ringM_len p
 have e1 : ((1 : Nat) : Int) = 1 := rfl
 have hx1 : isaTwo 19 = true := rfl
 refine vBE_ok (o := ringO a b p) ?_ ?_ ?_ ?_ ?_ ?_ (fun i hi => ?_) (fun i hi => ?_) (fun i hi => ?_) (fun i hi => ?_) (fun i hi => ?_)
 ·show (ringC p).length ≤ _; omega
 ·show (ringM p).length = (ringC p).length; omega
 ·exact Nat.zero_le _
 ·exact Nat.zero_le _
 ·show 1 ≤ 1024; omega
 ·show 2 ≤ 256; omega
 ·have hi : i < p + 2 := by rw [← hc]; exact hi
  by_cases h1 : i = 1
  ·subst h1
   have w := ring_word (p := p) (i := 0) (by omega) (by omega)
   have ht : isaTwo ((ringC p).getD 0 0 / 16777216) = true := by rw [w.2.2.2]; rfl
   exact word_snd (c := ringC p) (m := ringM p) (i := 0) (by omega) (by omega) rfl w.2.1 w.1 ht
  ·obtain ⟨w1, w2, w3, w4⟩ := ring_word hi h1
   refine word_ok (c := ringC p) (m := ringM p) (by omega) (by omega) w2 w1 w3 ?_
   rw [w4]
   by_cases h0 : i = 0
   ·subst h0; exact .inr ⟨by omega, rfl⟩
   ·rw [if_neg h0]; exact .inl rfl
 ·have hi : i < 2 := hi
  rcases (by omega : i = 0 ∨ i = 1) with rfl | rfl
  ·refine syE_code (x := ⟨a, 2, 0, true⟩) rfl ha rfl rfl (Int.le_refl _) ?_ rfl
   show (0 : Int) < ((ringC p).length : Int); omega
  ·refine syE_abs (x := ⟨b, 3, 0, true⟩) rfl hb ?_ rfl rfl rfl
   have e : mpS [⟨a, 2, 0, true⟩, ⟨b, 3, 0, true⟩] 1 = [(a, (0 : Int) + 1)] := by
    show symMp a [] = _
    unfold symMp; rw [if_neg (by rw [ha]; simp)]; rfl
   show mapGet (mpS [⟨a, 2, 0, true⟩, ⟨b, 3, 0, true⟩] 1) b = 0
   rw [e]; simp [mapGet, hab]
 ·exact absurd hi (Nat.not_lt_zero _)
 ·have hi : i < 1 := hi
  have : i = 0 := by omega
  subst this
  have i0 := ring_ins (p := p) (i := 0) (by omega) (by omega)
  refine crE_word (r := ⟨1, 1, 1, 0⟩) rfl (by decide) ?_ (show (-1 : Int) < 1 by decide) rfl (by decide) (show (1 : Int) < 2 by decide) rfl i0.1 rfl (.inr ⟨?_, show (3 : Int) ≠ 1 by decide⟩)
  ·show (1 : Int) < ((ringC p).length : Int); omega
  ·show farM (insI (ringC p) (ringM p) ((0 : Nat) : Int)).op = true
   rw [i0.2]; rfl
 ·have hi : i < p + 2 := by rw [← hc]; exact hi
  by_cases h1 : i = 1
  ·subst h1
   exact need_no (.inl ring_one)
  ·obtain ⟨_, i2⟩ := ring_ins hi h1
   by_cases h0 : i = 0
   ·subst h0
    refine need_far ?_ rfl
    show shortM (insI (ringC p) (ringM p) ((0 : Nat) : Int)).op = false
    rw [i2]; rfl
   ·refine need_no (.inr ?_)
    show shortM (insI (ringC p) (ringM p) (i : Int)).op = false ∧ farM (insI (ringC p) (ringM p) (i : Int)).op = false ∧ (insI (ringC p) (ringM p) (i : Int)).op ≠ 15
    rw [i2, if_neg h0]
    exact ⟨rfl, rfl, by decide⟩
structure Ring (n f p : Nat) : Prop where
 n2 : 2 ≤ n
 n6 : n ≤ 6
 hf : f < n
 hp : p ≤ 100
theorem rgA_inj {n f p : Nat} (R : Ring n f p) {i j : Nat} (hi : i < n) (hj : j < n) (h : rgA n f i = rgA n f j) : i = j := by
 have a := ix_lt R.hf hi
 have b := ix_lt R.hf hj
 have := R.n6
 exact ix_inj R.hf hi hj (nm_inj (by omega) (by omega) h)
theorem rgB_is {n f p : Nat} (R : Ring n f p) {i : Nat} (hi : i < n) : ∃ o, o < n ∧ rgA n f o = rgB n f i := by
 obtain ⟨o, h1, h2⟩ := ix_on R.hf (nx_lt (ix_lt R.hf hi))
 exact ⟨o, h1, by unfold rgA rgB; rw [h2]⟩
theorem rg_main {n f p : Nat} (R : Ring n f p) : ∃ o, o < n ∧ rgA n f o = mainT := by
 have := R.n2
 obtain ⟨o, h1, h2⟩ := ix_on (k := 0) R.hf (by omega)
 exact ⟨o, h1, by unfold rgA; rw [h2]; rfl⟩
theorem rg_v {n f p : Nat} (R : Ring n f p) {i : Nat} (hi : i < n) : vBE (rgO n f p i) = .fine := by
 have a := ix_lt R.hf hi
 have b := nx_lt a
 have := R.n6
 refine ring_v (nm_ok (by omega)) (nm_ok (by omega)) (fun e => ?_) R.hp
 exact nx_ne R.n2 a (nm_inj (by omega) (by omega) e).symm
theorem rg_sy {n f p i : Nat} (hi : i < n) : syO (rg n f p) i 0 = ⟨rgA n f i, 2, 0, true⟩ ∧ syO (rg n f p) i 1 = ⟨rgB n f i, 3, 0, true⟩ ∧ (obN (rg n f p) i).syms.length = 2 := by
 unfold syO; rw [rg_get hi]; exact ⟨rfl, rfl, rfl⟩
theorem rg_cr {n f p i : Nat} (hi : i < n) : (obN (rg n f p) i).crels.length = 1 ∧ relN (rg n f p) i 0 = ⟨1, 1, 1, 0⟩ := by
 unfold relN; rw [rg_get hi]; exact ⟨rfl, rfl⟩
theorem rg_uniq {n f p : Nat} (R : Ring n f p) : Uniq (rg n f p) := fun o s o' s' ho ho' hs hs' he he' hn => by
 rw [rg_len] at ho ho'
 obtain ⟨a0, a1, a2⟩ := rg_sy (f := f) (p := p) ho
 obtain ⟨b0, b1, b2⟩ := rg_sy (f := f) (p := p) ho'
 rw [a2] at hs; rw [b2] at hs'
 rcases (by omega : s = 0 ∨ s = 1) with rfl | rfl
 ·rcases (by omega : s' = 0 ∨ s' = 1) with rfl | rfl
  ·rw [a0, b0] at hn
   exact ⟨rgA_inj R ho ho' hn, rfl⟩
  ·rw [b1] at he'; exact absurd rfl he'.2
 ·rw [a1] at he; exact absurd rfl he.2
theorem rg_nm {n f p : Nat} (R : Ring n f p) : (nmO (rg n f p) (rg n f p).length).1 = .fine :=
 nmO_ok (rg_uniq R) (fun i hi => by rw [rg_len] at hi; rw [rg_get hi]; exact rg_v R hi) _ (Nat.le_refl _)
abbrev rgG (n f p : Nat) : Glb := nmG (rg n f p)
theorem rg_gl {n f p : Nat} (R : Ring n f p) {o : Nat} (ho : o < n) : glH (rgG n f p) (rgA n f o) = true ∧ glG (rgG n f p) (rgA n f o) = ((o : Int), ((0 : Nat) : Int)) := by
 obtain ⟨a0, a1, a2⟩ := rg_sy (f := f) (p := p) ho
 have := glG_at (rg_nm R) (o := o) (s := 0) (by rw [rg_len]; exact ho) (by rw [a2]; omega) (by rw [a0]; exact ⟨rfl, show (2 : Int) ≠ 3 by decide⟩)
 rw [a0] at this; exact this
theorem rg_real {n f p : Nat} (R : Ring n f p) {i o : Nat} (hi : i < n) (ho : o < n) (h : rgA n f o = rgB n f i) : realM (rg n f p) (rgG n f p) i 1 = ((o : Int), ((0 : Nat) : Int)) := by
 obtain ⟨a0, a1, a2⟩ := rg_sy (f := f) (p := p) hi
 have := real_abs (g := rgG n f p) (l := rg n f p) (i := i) (s := 1) (by rw [a1])
 rw [a1] at this
 rw [← (rg_gl R ho).2, h]; exact this
theorem rg_lks {n f p : Nat} (R : Ring n f p) : Lks (rg n f p) := by
 have n6 := R.n6
 refine ⟨by rw [rg_len]; omega, fun i hi => by rw [rg_len] at hi; rw [rg_get hi]; exact rg_v R hi, rg_uniq R, fun i s hi hs h3 => ?_, fun i j hi hj _ => ?_, ?_⟩
 ·rw [rg_len] at hi ⊢
  obtain ⟨a0, a1, a2⟩ := rg_sy (f := f) (p := p) hi
  rw [a2] at hs
  rcases (by omega : s = 0 ∨ s = 1) with rfl | rfl
  ·rw [a0] at h3; exact absurd h3 (show (2 : Int) ≠ 3 by decide)
  ·obtain ⟨o, o1, o2⟩ := rgB_is R hi
   obtain ⟨b0, _, b2⟩ := rg_sy (f := f) (p := p) o1
   exact ⟨o, 0, o1, by rw [b2]; omega, by rw [b0]; exact ⟨rfl, show (2 : Int) ≠ 3 by decide⟩, by rw [b0, a1]; exact o2⟩
 ·rw [rg_len] at hi ⊢
  obtain ⟨c1, c2⟩ := rg_cr (f := f) (p := p) hi
  rw [c1] at hj
  have : j = 0 := by omega
  subst this
  obtain ⟨o, o1, o2⟩ := rgB_is R hi
  obtain ⟨b0, _, b2⟩ := rg_sy (f := f) (p := p) o1
  refine ⟨o, 0, o1, by rw [b2]; omega, by rw [b0]; exact (show (2 : Int) ≠ 1 by decide), ?_⟩
  rw [c2]; exact rg_real R hi o1 o2
 ·obtain ⟨o, o1, o2⟩ := rg_main R
  obtain ⟨b0, _, b2⟩ := rg_sy (f := f) (p := p) o1
  exact ⟨o, 0, by rw [rg_len]; exact o1, by rw [b2]; omega, by rw [b0]; exact ⟨rfl, show (2 : Int) ≠ 3 by decide⟩, by rw [b0]; exact o2, by rw [b0]⟩
theorem ring_tl {p : Nat} : ∀ k, k ≤ p → tl (ringC p) (ringM p) (k + 2) = k + 2
 | 0, _ => by
  have i0 := ring_ins (p := p) (i := 0) (by omega) (by omega)
  have h0 : szW (ringC p) (ringM p) 0 = 2 := by
   unfold szW twoB
   rw [i0.1, i0.2]; rfl
  have m0 : (ringM p).getD 0 0 = 1 := rfl
  have m1 : (ringM p).getD 1 0 = 0 := rfl
  rw [tl, tl, tl, m0, m1, h0]; rfl
 | k + 1, h => by
  have i0 := ring_ins (p := p) (i := k + 2) (by omega) (by omega)
  have h0 : szW (ringC p) (ringM p) (k + 2) = 1 := by
   unfold szW twoB
   rw [i0.1, i0.2, if_neg (show ¬ k + 2 = 0 by omega)]; rfl
  rw [tl, ring_tl k (by omega), h0, ringM_get (by omega), if_neg (by decide)]
  omega
theorem ring_rk {p : Nat} : ∀ k, k ≤ p → rk (ringM p) (k + 2) = k + 1
 | 0, _ => rfl
 | k + 1, h => by rw [rk, ring_rk k (by omega), ringM_get (by omega), if_neg (by decide)]
theorem rg_laid {n f p : Nat} (R : Ring n f p) : laidE (rg n f p) = .fine := by
 have n6 := R.n6
 have hp := R.hp
 refine (rg_lks R).ok ?_ ?_
 ·rw [oDn_all (k := 0) (fun o ho => by rw [rg_len] at ho; rw [rg_get ho]; rfl) _ (Nat.le_refl _)]; omega
 ·rw [oBs_all (k := p + 1) (fun o ho => by rw [rg_len] at ho; rw [rg_get ho]; show rk (ringM p) (ringM p).length = _; rw [ringM_len]; exact ring_rk p (Nat.le_refl _)) _ (Nat.le_refl _), rg_len]
  have : (p + 1) * n ≤ 101 * 6 := Nat.mul_le_mul (by omega) n6
  omega
theorem rg_nobr {n f p : Nat} : NoBr (rg n f p) := fun i j hi hj => by
 rw [rg_len] at hi
 obtain ⟨c1, c2⟩ := rg_cr (f := f) (p := p) hi
 rw [c1] at hj
 have : j = 0 := by omega
 subst this
 rw [c2]; exact (show (1 : Int) ≠ 2 by decide)
theorem rg_img {n f p : Nat} (R : Ring n f p) : linkI (rg n f p) = imgM (rg n f p) (rgG n f p) ∧ ((imgM (rg n f p) (rgG n f p)).code.length : Int) = n * (p + 2) ∧
  (∀ i, i < n → (imgM (rg n f p) (rgG n f p)).code.getD (i * (p + 2) + 1) 0 = whV (rg n f p) (rgB n f i) ∧ i * (p + 2) + 1 < (imgM (rg n f p) (rgG n f p)).code.length ∧ whE (rg n f p) (rgB n f i) = .fine) ∧
  whE (rg n f p) mainT = .fine ∧ whV (rg n f p) mainT = (imgM (rg n f p) (rgG n f p)).entry := by
 have hl := rg_laid R
 have he : (laidE (rg n f p)).isErr = false := by rw [hl]; rfl
 obtain ⟨K, _, _⟩ := laid_ok he
 have hT : ∀ o, o < (rg n f p).length → tl (obN (rg n f p) o).code (obN (rg n f p) o).map (obN (rg n f p) o).map.length = ((p + 2 : Nat) : Int) := fun o ho => by
  rw [rg_len] at ho; rw [rg_get ho]
  show tl (ringC p) (ringM p) (ringM p).length = _
  rw [ringM_len]
  have := ring_tl (p := p) p (Nat.le_refl _)
  rw [this]; omega
 have hS := wdS_all hT
 have where_ : ∀ nm, glH (rgG n f p) nm = true → whE (rg n f p) nm = .fine ∧ whV (rg n f p) nm = adrL (rg n f p) (rgG n f p) (glG (rgG n f p) nm) := fun nm h => by
  have e : whE (rg n f p) nm = .fine := by unfold whE; rw [if_neg (by rw [he]; simp), if_pos h]
  refine ⟨e, ?_⟩
  unfold whV; rw [e, if_neg (by simp [FErr.isErr])]
 refine ⟨linkI_ok hl, ?_, fun i hi => ?_, ?_⟩
 ·rw [nobr_len K rg_nobr, hS _ (Nat.le_refl _), rg_len, Int.mul_comm]; rfl
 ·have hi' : i < (rg n f p).length := by rw [rg_len]; exact hi
  have i0 := ring_ins (p := p) (i := 0) (by omega) (by omega)
  have h0 : szW (obN (rg n f p) i).code (obN (rg n f p) i).map 0 = 2 := by
   rw [rg_get hi]
   show szW (ringC p) (ringM p) 0 = 2
   unfold szW twoB
   rw [i0.1, i0.2]; rfl
  have hml : (obN (rg n f p) i).map.length = p + 2 := by rw [rg_get hi]; exact ringM_len p
  have hm0 : (obN (rg n f p) i).map.getD 0 0 = 1 := by rw [rg_get hi]; rfl
  obtain ⟨q1, q2⟩ := nobr_code K rg_nobr (w := 0) (i := 1) hi' (by omega) (by rw [hm0]; decide) (by rw [h0]; decide)
  have hpos : (wdS (rg n f p) i + tl (obN (rg n f p) i).code (obN (rg n f p) i).map 0).toNat + 1 = i * (p + 2) + 1 := by
   rw [hS i (by omega)]
   show ((((p + 2 : Nat) : Int) * (i : Int)) + 0).toNat + 1 = _
   rw [Int.add_zero, ← Int.natCast_mul, Int.toNat_natCast, Nat.mul_comm]
  rw [hpos] at q1 q2
  obtain ⟨o, o1, o2⟩ := rgB_is R hi
  obtain ⟨g1, g2⟩ := rg_gl R o1
  rw [o2] at g1 g2
  obtain ⟨w1, w2⟩ := where_ _ g1
  refine ⟨?_, q2, w1⟩
  obtain ⟨c1, c2⟩ := rg_cr (f := f) (p := p) hi
  obtain ⟨r1, r2⟩ := rG_at K.nm hi' (j := 0) (by rw [c1]; omega)
  rw [c2] at r1 r2
  have r1 : rH (rg n f p) (i : Int) 1 = true := r1
  have r2 : rG (rg n f p) (i : Int) 1 = ⟨1, 1, 1, 0⟩ := r2
  have hto : wdTo (rg n f p) (rgG n f p) (i : Int) 1 = ((o : Int), ((0 : Nat) : Int)) := by
   unfold wdTo; rw [r2]; exact rg_real R hi o1 o2
  obtain ⟨b0, _, _⟩ := rg_sy (f := f) (p := p) o1
  have hC : wdC (rg n f p) (rgG n f p) (i : Int) 1 = true := by
   unfold wdC wdR
   rw [r1, r2, hto]
   simp only [symAt_nat, b0]; rfl
  have := (wdC_adr K hi' hC).1
  have e01 : ((0 : Nat) : Int) + ((1 : Nat) : Int) = 1 := rfl
  rw [q1, e01, this, hto, w2, g2]
 ·obtain ⟨o, o1, o2⟩ := rg_main R
  obtain ⟨g1, g2⟩ := rg_gl R o1
  rw [o2] at g1
  obtain ⟨w1, w2⟩ := where_ _ g1
  refine ⟨w1, ?_⟩
  rw [w2]
  exact (ptN_entry (rg n f p) (rgG n f p) _).1.symm
theorem mod_if {a n : Nat} (h : a < 2 * n) : ((a : Nat) : Int).tmod (n : Int) = ((if a < n then a else a - n : Nat) : Int) := by
 rw [← Int.ofNat_tmod]
 by_cases hl : a < n
 ·rw [if_pos hl, Nat.mod_eq_of_lt hl]
 ·rw [if_neg hl, Nat.mod_eq_sub_mod (by omega), Nat.mod_eq_of_lt (by omega)]
theorem ix_mod {n f i : Nat} (hf : f < n) (hi : i < n) : ((f : Int) + (i : Int)).tmod (n : Int) = (ix n f i : Int) := by
 have := mod_if (a := f + i) (n := n) (by omega)
 rw [Int.natCast_add] at this; exact this
theorem nx_mod {n k : Nat} (hk : k < n) : ((k : Int) + 1).tmod (n : Int) = (nx n k : Int) := by
 have := mod_if (a := k + 1) (n := n) (by omega)
 rw [Int.natCast_add] at this
 have h1 : ((k : Int) + 1).tmod (n : Int) = ((if k + 1 < n then k + 1 else k + 1 - n : Nat) : Int) := this
 rw [h1]; unfold nx
 by_cases h : k + 1 = n
 ·rw [if_pos h, if_neg (by omega)]; omega
 ·rw [if_neg h, if_pos (by omega)]
theorem rgU_succ (n f p i : Nat) : rgU n f p (i + 1) = rgU n f p i ++ [rgO n f p i] := by unfold rgU; rw [List.range_succ, List.map_append]; rfl
theorem rgN_succ (n f i : Nat) : rgN n f (i + 1) = rgN n f i ++ [rgB n f i] := by unfold rgN; rw [List.range_succ, List.map_append]; rfl
theorem rg_mk {n f p : Nat} (R : Ring n f p) {i : Nat} (hi : i < n) : mkO [] (ringL (rgA n f i) (rgB n f i) p) = rgO n f p i := by
 have a := ix_lt R.hf hi
 have b := nx_lt a
 have := R.n6
 exact ring_mk (by omega) (by omega) (nx_ne R.n2 a) p
end Go.Proofs.YtacmmedhjebfjaaDoor
set_option linter.unusedVariables false
set_option linter.unusedSimpArgs false
set_option linter.unusedSectionVars false
namespace Go.Proofs.YtacmmedhjebfjaaDoor
open Go.RowKit Go.Sy Go.Fac
section
variable {ea : Ear} {has : Int → Prop} {rest : List (Nat × SVal)} [ht : Nonempty (EType ea)] [hpw : Nonempty (Pow ea)]
abbrev ordF (n f p : Nat) : List (Nat × SVal) := [(0, .int .i64 (.sym (n : Int) 2 6)), (1, .int .i64 (.sym (f : Int) 0 6)), (2, .int .i64 (.sym (p : Int) 0 100)), (7, .bool (.lit true)), (8, .own 0), (9, .own 1)]
abbrev ordH (n f p i : Nat) : List (Nat × Option Cont) := [(0, some (.recs .obj (rgU n f p i))), (1, some (.recs .str (rgN n f i)))]
def ordJ (n f p i : Nat) : List (Nat × LSum) := [
 (2000016, cutL { fr := ordF n f p ++ [(10, .int .i64 (.sym (i : Int) 0 1000000)), (11, .int .i64 (.sym (ix n f i : Int) 0 6)), (12, .str (rgA n f i))], hp := ordH n f p i, next := 2, sz := 145 }),
 (2000019, cutL { fr := ordF n f p ++ [(10, .int .i64 (.sym (i : Int) 0 1000000)), (12, .str (rgA n f i)), (13, .str (rgB n f i))], hp := ordH n f p i, next := 2, sz := 145 })]
def HordI (n f p ii : Nat) (i : Nat) : SState := { fr := ordF n f p ++ [(10, .int .i64 (.sym (ii : Int) 0 1000000)), (13, .str (rgB n f ii)), (14, .own 2), (15, .int .i64 (.sym i 0 1000000))], hp := ordH n f p ii ++ [(2, some (.recs .line (ringL (rgA n f ii) (rgB n f ii) i)))], next := 3, sz := 145 }
def XordI (n f p ii : Nat) : SState := { fr := ordF n f p ++ [(10, .int .i64 (.sym (ii : Int) 0 1000000)), (13, .str (rgB n f ii)), (14, .own 2)], hp := ordH n f p ii ++ [(2, some (.recs .line (ringL (rgA n f ii) (rgB n f ii) p)))], next := 3, sz := 145 }
def LordI (n f p ii : Nat) : LSum := ⟨HordI n f p ii 0, fun k => k (.exit 2) (XordI n f p ii), Ring n f p ∧ ii < n⟩
theorem bordI (rest : List (Nat × SVal)) (n f p ii : Nat) (i : Nat) : (Tr.sat (rnd1 (env (G7 ++ rest) [(8, kfirst13), (14, kNumber), (25, kNum), (15, kAt), (16, kTo), (17, kOp), (18, kObjectRF), (10, kLinkF), (26, kWhere)]) (fun _ => True) (p) (HordI n f p ii) 2 (XordI n f p ii) i) (run (env (G7 ++ rest) [(8, kfirst13), (14, kNumber), (25, kNum), (15, kAt), (16, kTo), (17, kOp), (18, kObjectRF), (10, kLinkF), (26, kWhere)]) [] (loopN (loopN (bodyOf Tryd.f6) 0) 0) (HordI n f p ii i) .leaf)) = (
 IT (decide ((↑i : Int) < (↑p : Int))) (RQ (List.length (ringL (rgA n f ii) (rgB n f ii) i) + List.length [opL (1 : Int) (nilR RT.i64)] ≤ 137438953472) (i < p ∧ True ∧ (↑n : Int) = (↑n : Int) ∧ (↑f : Int) = (↑f : Int) ∧ (↑p : Int) = (↑p : Int) ∧ true = true ∧ (↑ii : Int) = (↑ii : Int) ∧ rgB n f ii = rgB n f ii ∧ (↑i : Int) + 1 = (↑(i + 1) : Int) ∧ (0 ≤ (↑(i + 1) : Int) ∧ (↑(i + 1) : Int) ≤ 1000000) ∧ rgU n f p ii = rgU n f p ii ∧ rgN n f ii = rgN n f ii ∧ ringL (rgA n f ii) (rgB n f ii) i ++ [opL (1 : Int) (nilR RT.i64)] = ringL (rgA n f ii) (rgB n f ii) (i + 1))) (Nat.beq (2 : Nat) (2 : Nat) = true ∧ (↑n : Int) = (↑n : Int) ∧ (↑f : Int) = (↑f : Int) ∧ (↑p : Int) = (↑p : Int) ∧ true = true ∧ (↑ii : Int) = (↑ii : Int) ∧ rgB n f ii = rgB n f ii ∧ rgU n f p ii = rgU n f p ii ∧ rgN n f ii = rgN n f ii ∧ ringL (rgA n f ii) (rgB n f ii) i = ringL (rgA n f ii) (rgB n f ii) p)) := by kernel_rfl
set_option maxHeartbeats 4000000 in
theorem lordI (n f p ii : Nat) {W : World} {R own0 : Nat → Prop} {ρ0 : Nat → Option Value} (hown : HownOk (env (G7 ++ rest) [(8, kfirst13), (14, kNumber), (25, kNum), (15, kAt), (16, kTo), (17, kOp), (18, kObjectRF), (10, kLinkF), (26, kWhere)]) own0 ρ0) : LOk Tryd.prog (env (G7 ++ rest) [(8, kfirst13), (14, kNumber), (25, kNum), (15, kAt), (16, kTo), (17, kOp), (18, kObjectRF), (10, kLinkF), (26, kWhere)]) (ctx ea has) (G7 ++ rest) W R own0 ρ0 (loopN (loopN (bodyOf Tryd.f6) 0) 0) (LordI n f p ii) := by
 refine loop1_ok (J := fun _ => True) (N := p) (H := HordI n f p ii) (X := XordI n f p ii) (env_ok (con := [(8, kfirst13), (14, kNumber), (25, kNum), (15, kAt), (16, kTo), (17, kOp), (18, kObjectRF), (10, kLinkF), (26, kWhere)]) ⟨cfirst13, cNumber, cNum, cAt, cTo, cOp, cObjectRF, cLinkF, cWhere, trivial⟩) hown (ls := fun i => []) (fun i => noSums (by kernel_rfl)) (fun hm i hi hj => ?_) 0 (fun hm => by first | exact Nat.zero_le _ | omega) (fun hm => trivial)
 rw [bordI rest n f p ii i]
 delta RQ IT
 obtain ⟨R, hii⟩ := hm
 have hp := R.hp
 have hL : (ringL (rgA n f ii) (rgB n f ii) i).length = i + 2 := by unfold ringL; simp
 refine ⟨fun h => ?_, fun h => ?_⟩
 ·have h := of_decide_eq_true h
  refine ⟨by rw [hL]; show i + 2 + 1 ≤ _; omega, fun _ => ⟨by omega, trivial, rfl, rfl, rfl, rfl, rfl, rfl, by omega, ⟨by omega, by omega⟩, rfl, rfl, ?_⟩⟩
  unfold ringL
  rw [List.append_assoc, List.replicate_succ']; rfl
 ·have h := of_decide_eq_false h
  have : i = p := by omega
  subst this
  exact ⟨rfl, rfl, rfl, rfl, rfl, rfl, rfl, rfl, rfl, rfl⟩
def HordA (n f p : Nat) (i : Nat) : SState := { fr := ordF n f p ++ [(10, .int .i64 (.sym i 0 1000000))], hp := ordH n f p i, next := 2, sz := 145 }
def XordA (n f p : Nat) : SState := { fr := ordF n f p, hp := ordH n f p n, next := 2, sz := 145 }
def LordA (n f p : Nat) : LSum := ⟨HordA n f p 0, fun k => k (.exit 0) (XordA n f p), Ring n f p⟩
theorem bordA (rest : List (Nat × SVal)) (n f p : Nat) (i : Nat) : (Tr.sat (rnd1 (env (G7 ++ rest) [(8, kfirst13), (14, kNumber), (25, kNum), (15, kAt), (16, kTo), (17, kOp), (18, kObjectRF), (10, kLinkF), (26, kWhere)]) (fun _ => True) (n) (HordA n f p) 0 (XordA n f p) i) (run (env (G7 ++ rest) [(8, kfirst13), (14, kNumber), (25, kNum), (15, kAt), (16, kTo), (17, kOp), (18, kObjectRF), (10, kLinkF), (26, kWhere)]) ((21, LordI n f p i) :: ordJ n f p i) (loopN (bodyOf Tryd.f6) 0) (HordA n f p i) .leaf)) = (
 IT (decide ((↑i : Int) < (↑n : Int))) (RQ ((↑n : Int) ≠ (0 : Int)) (RQ (ByteArray.size (ByteArray.mk #[(102 : UInt8)]) + ByteArray.size (itoaB (Int.tmod ((↑f : Int) + (↑i : Int)) (↑n : Int))) ≤ 9223372036854775807) ((IT (decide (Int.tmod ((↑f : Int) + (↑i : Int)) (↑n : Int) = 0)) ((↑n : Int) = (↑n : Int) ∧ (↑f : Int) = (↑f : Int) ∧ (↑p : Int) = (↑p : Int) ∧ true = true ∧ (↑i : Int) = (↑i : Int) ∧ Int.tmod ((↑f : Int) + (↑i : Int)) (↑n : Int) = (↑(ix n f i) : Int) ∧ (0 ≤ (↑(ix n f i) : Int) ∧ (↑(ix n f i) : Int) ≤ 6) ∧ ByteArray.mk #[(109 : UInt8), (97 : UInt8), (105 : UInt8), (110 : UInt8)] = rgA n f i ∧ rgU n f p i = rgU n f p i ∧ rgN n f i = rgN n f i) ((↑n : Int) = (↑n : Int) ∧ (↑f : Int) = (↑f : Int) ∧ (↑p : Int) = (↑p : Int) ∧ true = true ∧ (↑i : Int) = (↑i : Int) ∧ Int.tmod ((↑f : Int) + (↑i : Int)) (↑n : Int) = (↑(ix n f i) : Int) ∧ (0 ≤ (↑(ix n f i) : Int) ∧ (↑(ix n f i) : Int) ≤ 6) ∧ ByteArray.mk #[(102 : UInt8)] ++ itoaB (Int.tmod ((↑f : Int) + (↑i : Int)) (↑n : Int)) = rgA n f i ∧ rgU n f p i = rgU n f p i ∧ rgN n f i = rgN n f i)) ∧ RQ ((↑n : Int) ≠ (0 : Int)) (RQ (ByteArray.size (ByteArray.mk #[(102 : UInt8)]) + ByteArray.size (itoaB (Int.tmod ((↑(ix n f i) : Int) + 1) (↑n : Int))) ≤ 9223372036854775807) ((RQ ((↑n : Int) ≠ (0 : Int)) (IT (decide (Int.tmod ((↑(ix n f i) : Int) + 1) (↑n : Int) = 0)) ((↑n : Int) = (↑n : Int) ∧ (↑f : Int) = (↑f : Int) ∧ (↑p : Int) = (↑p : Int) ∧ true = true ∧ (↑i : Int) = (↑i : Int) ∧ rgA n f i = rgA n f i ∧ ByteArray.mk #[(109 : UInt8), (97 : UInt8), (105 : UInt8), (110 : UInt8)] = rgB n f i ∧ rgU n f p i = rgU n f p i ∧ rgN n f i = rgN n f i) ((↑n : Int) = (↑n : Int) ∧ (↑f : Int) = (↑f : Int) ∧ (↑p : Int) = (↑p : Int) ∧ true = true ∧ (↑i : Int) = (↑i : Int) ∧ rgA n f i = rgA n f i ∧ ByteArray.mk #[(102 : UInt8)] ++ itoaB (Int.tmod ((↑(ix n f i) : Int) + 1) (↑n : Int)) = rgB n f i ∧ rgU n f p i = rgU n f p i ∧ rgN n f i = rgN n f i))) ∧ RQ ((Ring n f p ∧ i < n) ∧ (↑n : Int) = (↑n : Int) ∧ (↑f : Int) = (↑f : Int) ∧ (↑p : Int) = (↑p : Int) ∧ true = true ∧ (↑i : Int) = (↑i : Int) ∧ rgB n f i = rgB n f i ∧ (0 : Int) = (↑(0 : Nat) : Int) ∧ rgU n f p i = rgU n f p i ∧ rgN n f i = rgN n f i ∧ [Ln.mk (In5.mk (0 : Int) (0 : Int) (0 : Int) (0 : Int) (0 : Int)) (rgA n f i) ByteArray.empty false, Ln.mk (In5.mk (19 : Int) (0 : Int) (0 : Int) (0 : Int) (0 : Int)) ByteArray.empty (rgB n f i) false] = ringL (rgA n f i) (rgB n f i) (0 : Nat)) (RQ (List.length (ringL (rgA n f i) (rgB n f i) p) ≤ 100000 ∧ shortN (@List.nil (RT.ty RT.u32))) (RQ (List.length (rgU n f p i) + List.length [Ob.mk (@List.nil (RT.ty RT.u32)) (oAll (ringL (rgA n f i) (rgB n f i) p)).code (oAll (ringL (rgA n f i) (rgB n f i) p)).map (nilR RT.rel) (oAll (ringL (rgA n f i) (rgB n f i) p)).cr (oAll (ringL (rgA n f i) (rgB n f i) p)).sy] ≤ 137438953472) (RQ (List.length (rgN n f i) + List.length [rgB n f i] ≤ 137438953472) (i < n ∧ True ∧ (↑n : Int) = (↑n : Int) ∧ (↑f : Int) = (↑f : Int) ∧ (↑p : Int) = (↑p : Int) ∧ true = true ∧ (↑i : Int) + 1 = (↑(i + 1) : Int) ∧ (0 ≤ (↑(i + 1) : Int) ∧ (↑(i + 1) : Int) ≤ 1000000) ∧ rgU n f p i ++ [Ob.mk (@List.nil (RT.ty RT.u32)) (oAll (ringL (rgA n f i) (rgB n f i) p)).code (oAll (ringL (rgA n f i) (rgB n f i) p)).map (nilR RT.rel) (oAll (ringL (rgA n f i) (rgB n f i) p)).cr (oAll (ringL (rgA n f i) (rgB n f i) p)).sy] = rgU n f p (i + 1) ∧ rgN n f i ++ [rgB n f i] = rgN n f (i + 1)))))))))) (Nat.beq (0 : Nat) (0 : Nat) = true ∧ (↑n : Int) = (↑n : Int) ∧ (↑f : Int) = (↑f : Int) ∧ (↑p : Int) = (↑p : Int) ∧ true = true ∧ rgU n f p i = rgU n f p n ∧ rgN n f i = rgN n f n)) := by kernel_rfl
set_option maxHeartbeats 4000000 in
theorem lordA (n f p : Nat) {W : World} {R own0 : Nat → Prop} {ρ0 : Nat → Option Value} (hown : HownOk (env (G7 ++ rest) [(8, kfirst13), (14, kNumber), (25, kNum), (15, kAt), (16, kTo), (17, kOp), (18, kObjectRF), (10, kLinkF), (26, kWhere)]) own0 ρ0) : LOk Tryd.prog (env (G7 ++ rest) [(8, kfirst13), (14, kNumber), (25, kNum), (15, kAt), (16, kTo), (17, kOp), (18, kObjectRF), (10, kLinkF), (26, kWhere)]) (ctx ea has) (G7 ++ rest) W R own0 ρ0 (loopN (bodyOf Tryd.f6) 0) (LordA n f p) := by
 refine loop1_ok (J := fun _ => True) (N := n) (H := HordA n f p) (X := XordA n f p) (env_ok (con := [(8, kfirst13), (14, kNumber), (25, kNum), (15, kAt), (16, kTo), (17, kOp), (18, kObjectRF), (10, kLinkF), (26, kWhere)]) ⟨cfirst13, cNumber, cNum, cAt, cTo, cOp, cObjectRF, cLinkF, cWhere, trivial⟩) hown (ls := fun i => ((21, LordI n f p i) :: ordJ n f p i)) (fun i => hl1 (by kernel_rfl) (by kernel_rfl) (lordI n f p i hown)) (fun hm i hi hj => ?_) 0 (fun hm => by first | exact Nat.zero_le _ | omega) (fun hm => trivial)
 rw [bordA rest n f p i]
 delta RQ IT
 have R := hm
 have hp := R.hp
 have hn := R.n6
 have hn2 := R.n2
 have hf := R.hf
 have hL : (ringL (rgA n f i) (rgB n f i) p).length = p + 2 := by unfold ringL; simp
 refine ⟨fun h => ?_, fun h => ?_⟩
 ·have h := of_decide_eq_true h
  have hlt : i < n := by omega
  have hx := ix_lt hf hlt
  have hy := nx_lt hx
  have sz : ∀ z : Int, (⟨#[102]⟩ : ByteArray).size + (itoaB z).size ≤ 9223372036854775807 := fun z => by
   have := itoaB_size z
   have e : (⟨#[102]⟩ : ByteArray).size = 1 := rfl
   omega
  rw [ix_mod hf hlt, nx_mod hx]
  have ll : (rgU n f p i).length = i ∧ (rgN n f i).length = i := by unfold rgU rgN; simp
  have em : (⟨[], (oAll (ringL (rgA n f i) (rgB n f i) p)).code, (oAll (ringL (rgA n f i) (rgB n f i) p)).map, nilR RT.rel, (oAll (ringL (rgA n f i) (rgB n f i) p)).cr, (oAll (ringL (rgA n f i) (rgB n f i) p)).sy⟩ : Ob) = rgO n f p i := rg_mk R hlt
  rw [em]
  refine ⟨by omega, fun _ => ⟨sz _, fun _ => ⟨⟨fun g => ?_, fun g => ?_⟩, by omega, fun _ => ⟨sz _, fun _ => ⟨⟨by omega, fun _ => ⟨fun g => ?_, fun g => ?_⟩⟩, ⟨⟨R, hlt⟩, rfl, rfl, rfl, rfl, rfl, rfl, rfl, rfl, rfl, rfl⟩, fun _ => ⟨⟨by rw [hL]; omega, Nat.zero_le _⟩, fun _ => ⟨by rw [ll.1]; show i + 1 ≤ _; omega, fun _ => ⟨by rw [ll.2]; show i + 1 ≤ _; omega, fun _ => ⟨hlt, trivial, rfl, rfl, rfl, rfl, by omega, ⟨by omega, by omega⟩, (rgU_succ n f p i).symm, (rgN_succ n f i).symm⟩⟩⟩⟩⟩⟩⟩⟩⟩
  ·have g := of_decide_eq_true g
   have e : rgA n f i = mainT := by unfold rgA nmT; rw [if_pos (by omega)]
   exact ⟨rfl, rfl, rfl, rfl, rfl, rfl, ⟨by omega, by omega⟩, e.symm, rfl, rfl⟩
  ·have g := of_decide_eq_false g
   have e : rgA n f i = fT (ix n f i) := by unfold rgA nmT; rw [if_neg (by omega)]
   exact ⟨rfl, rfl, rfl, rfl, rfl, rfl, ⟨by omega, by omega⟩, e.symm, rfl, rfl⟩
  ·have g := of_decide_eq_true g
   have e : rgB n f i = mainT := by unfold rgB nmT; rw [if_pos (by omega)]
   exact ⟨rfl, rfl, rfl, rfl, rfl, rfl, e.symm, rfl, rfl⟩
  ·have g := of_decide_eq_false g
   have e : rgB n f i = fT (nx n (ix n f i)) := by unfold rgB nmT; rw [if_neg (by omega)]
   exact ⟨rfl, rfl, rfl, rfl, rfl, rfl, e.symm, rfl, rfl⟩
 ·have h := of_decide_eq_false h
  have : i = n := by omega
  subst this
  exact ⟨rfl, rfl, rfl, rfl, rfl, rfl, rfl⟩
def HordB (n f p : Nat) (i : Nat) : SState := { fr := [(0, .int .i64 (.sym (n : Int) 2 6)), (2, .int .i64 (.sym (p : Int) 0 100)), (7, .bool (.lit true)), (8, .ro .obj (rg n f p)), (9, .ro .str (rgN n f n)), (16, .ptr 0 0), (18, .int .i64 (.sym i 0 1000000))], hp := [(0, some (.cells (imgV (linkI (rg n f p)))))], next := 1, sz := 145 }
def XordB (n f p : Nat) : SState := { fr := [(7, .bool (.lit true)), (8, .ro .obj (rg n f p)), (16, .ptr 0 0)], hp := [(0, some (.cells (imgV (linkI (rg n f p)))))], next := 1, sz := 145 }
def LordB (n f p : Nat) : LSum := ⟨HordB n f p 0, fun k => k (.exit 4) (XordB n f p), Ring n f p⟩
theorem bordB (rest : List (Nat × SVal)) (n f p : Nat) (i : Nat) : (Tr.sat (rnd1 (env (G7 ++ rest) [(8, kfirst13), (14, kNumber), (25, kNum), (15, kAt), (16, kTo), (17, kOp), (18, kObjectRF), (10, kLinkF), (26, kWhere)]) (fun _ => True) (n) (HordB n f p) 4 (XordB n f p) i) (run (env (G7 ++ rest) [(8, kfirst13), (14, kNumber), (25, kNum), (15, kAt), (16, kTo), (17, kOp), (18, kObjectRF), (10, kLinkF), (26, kWhere)]) [] (loopN (bodyOf Tryd.f6) 1) (HordB n f p i) .leaf)) = (
 IT (decide ((↑i : Int) < (↑n : Int))) (RQ (0 ≤ (↑i : Int) ∧ (↑i : Int) < (↑(List.length (rgN n f n)) : Int)) (RQ ((!!!FErr.isErr (whE (rg n f p) (List.getD (rgN n f n) (Int.toNat (↑i : Int)) (RT.dflt RT.str)))) = true → 0 ≤ (↑i : Int) * ((↑p : Int) + 2) + 1 ∧ (↑i : Int) * ((↑p : Int) + 2) + 1 < (↑(List.length (linkI (rg n f p)).code) : Int)) (IT (!!FErr.isErr (whE (rg n f p) (List.getD (rgN n f n) (Int.toNat (↑i : Int)) (RT.dflt RT.str))) || !decide (List.getD (linkI (rg n f p)).code (Int.toNat ((↑i : Int) * ((↑p : Int) + 2) + 1)) (RT.dflt RT.u32) = whV (rg n f p) (List.getD (rgN n f n) (Int.toNat (↑i : Int)) (RT.dflt RT.str)))) False (i < n ∧ True ∧ (↑n : Int) = (↑n : Int) ∧ (↑p : Int) = (↑p : Int) ∧ true = true ∧ rg n f p = rg n f p ∧ rgN n f n = rgN n f n ∧ (↑i : Int) + 1 = (↑(i + 1) : Int) ∧ (0 ≤ (↑(i + 1) : Int) ∧ (↑(i + 1) : Int) ≤ 1000000) ∧ (linkI (rg n f p)).entry = (linkI (rg n f p)).entry ∧ (linkI (rg n f p)).data = (linkI (rg n f p)).data ∧ (linkI (rg n f p)).code = (linkI (rg n f p)).code ∧ (linkI (rg n f p)).drefs = (linkI (rg n f p)).drefs ∧ (linkI (rg n f p)).places = (linkI (rg n f p)).places ∧ (linkI (rg n f p)).starts = (linkI (rg n f p)).starts)))) (Nat.beq (4 : Nat) (4 : Nat) = true ∧ true = true ∧ rg n f p = rg n f p ∧ (linkI (rg n f p)).entry = (linkI (rg n f p)).entry ∧ (linkI (rg n f p)).data = (linkI (rg n f p)).data ∧ (linkI (rg n f p)).code = (linkI (rg n f p)).code ∧ (linkI (rg n f p)).drefs = (linkI (rg n f p)).drefs ∧ (linkI (rg n f p)).places = (linkI (rg n f p)).places ∧ (linkI (rg n f p)).starts = (linkI (rg n f p)).starts)) := by kernel_rfl
set_option maxHeartbeats 4000000 in
theorem lordB (n f p : Nat) {W : World} {R own0 : Nat → Prop} {ρ0 : Nat → Option Value} (hown : HownOk (env (G7 ++ rest) [(8, kfirst13), (14, kNumber), (25, kNum), (15, kAt), (16, kTo), (17, kOp), (18, kObjectRF), (10, kLinkF), (26, kWhere)]) own0 ρ0) : LOk Tryd.prog (env (G7 ++ rest) [(8, kfirst13), (14, kNumber), (25, kNum), (15, kAt), (16, kTo), (17, kOp), (18, kObjectRF), (10, kLinkF), (26, kWhere)]) (ctx ea has) (G7 ++ rest) W R own0 ρ0 (loopN (bodyOf Tryd.f6) 1) (LordB n f p) := by
 refine loop1_ok (J := fun _ => True) (N := n) (H := HordB n f p) (X := XordB n f p) (env_ok (con := [(8, kfirst13), (14, kNumber), (25, kNum), (15, kAt), (16, kTo), (17, kOp), (18, kObjectRF), (10, kLinkF), (26, kWhere)]) ⟨cfirst13, cNumber, cNum, cAt, cTo, cOp, cObjectRF, cLinkF, cWhere, trivial⟩) hown (ls := fun i => []) (fun i => noSums (by kernel_rfl)) (fun hm i hi hj => ?_) 0 (fun hm => by first | exact Nat.zero_le _ | omega) (fun hm => trivial)
 rw [bordB rest n f p i]
 delta RQ IT
 have R := hm
 have hp := R.hp
 have hn := R.n6
 obtain ⟨e1, c1, c2, _⟩ := rg_img R
 have hN : (rgN n f n).length = n := by unfold rgN; simp
 refine ⟨fun h => ?_, fun h => ?_⟩
 ·have h := of_decide_eq_true h
  have hlt : i < n := by omega
  obtain ⟨q1, q2, q3⟩ := c2 i hlt
  have eN : (rgN n f n).getD ((i : Int)).toNat RT.str.dflt = rgB n f i := by rw [Int.toNat_natCast]; exact map_get _ _ hlt
  have eP : ((i : Int) * ((p : Int) + 2) + 1) = ((i * (p + 2) + 1 : Nat) : Int) := by
   rw [Int.natCast_add, Int.natCast_mul]; rfl
  have q1' : (imgM (rg n f p) (rgG n f p)).code.getD (i * (p + 2) + 1) RT.u32.dflt = whV (rg n f p) (rgB n f i) := q1
  rw [eN, eP, Int.toNat_natCast, e1, q1', q3, decide_eq_true rfl]
  have hr : 0 ≤ ((i * (p + 2) + 1 : Nat) : Int) ∧ ((i * (p + 2) + 1 : Nat) : Int) < ((imgM (rg n f p) (rgG n f p)).code.length : Int) := by omega
  refine ⟨⟨by omega, by rw [hN]; omega⟩, fun _ => ⟨fun _ => hr, fun _ => ⟨fun g => ?_, fun _ => ?_⟩⟩⟩
  ·exact absurd g (by decide)
  ·exact ⟨hlt, trivial, rfl, rfl, rfl, rfl, rfl, by omega, ⟨by omega, by omega⟩, rfl, rfl, rfl, rfl, rfl, rfl⟩
 ·exact ⟨rfl, rfl, rfl, rfl, rfl, rfl, rfl, rfl, rfl⟩
def oN (x : Int) : Nat := (x % 5 + 2).toNat
def oF (x y : Int) : Nat := (y % (oN x : Int)).toNat
def oP (z : Int) : Nat := (z % 40).toNat
def kLinkOrder : List SVal → Nat → Acc ORes := fun a n => match a with | [.int .i64 n', .int .i64 f', .int .i64 p'] => .ret ({ v := .bool (.lit true) }) | _ => .fail "LinkOrder"
theorem argLinkOrder (n' f' p' : SI) : (all (subL tAtN none' [] deep [.int .i64 n', .int .i64 f', .int .i64 p'] [.int .i64 (.full n'.val), .int .i64 (.full f'.val), .int .i64 (.full p'.val)])) = (
 SI.val n' = SI.val n' ∧ SI.val f' = SI.val f' ∧ SI.val p' = SI.val p') := by kernel_rfl
theorem runLinkOrder (rest : List (Nat × SVal)) (n' : Int) (f' : Int) (p' : Int) : (Tr.sat (plainQ (.bool (.lit true))) (run (env (G7 ++ rest) [(8, kfirst13), (14, kNumber), (25, kNum), (15, kAt), (16, kTo), (17, kOp), (18, kObjectRF), (10, kLinkF), (26, kWhere)]) [(10, LordA (oN n') (oF n' f') (oP p')), (30, LordB (oN n') (oF n' f') (oP p')), (2000026, cutL { fr := [(0, .int .i64 (.sym (oN n' : Int) 2 6)), (2, .int .i64 (.sym (oP p' : Int) 0 100)), (7, .bool (.lit true)), (8, .ro .obj (rg (oN n') (oF n' f') (oP p'))), (9, .ro .str (rgN (oN n') (oF n' f') (oN n')))], hp := [], next := 0, sz := 145 }), (1000026, cutL { fr := [(0, .int .i64 (.sym (oN n' : Int) 2 6)), (2, .int .i64 (.sym (oP p' : Int) 0 100)), (7, .bool (.lit true)), (8, .ro .obj (rg (oN n') (oF n' f') (oP p'))), (9, .ro .str (rgN (oN n') (oF n' f') (oN n'))), (16, .ptr 0 0), (17, .err .fine)], hp := [(0, some (.cells (imgV (linkI (rg (oN n') (oF n' f') (oP p'))))))], next := 1, sz := 145 })] (bodyOf Tryd.f6) (start [.int .i64 (.full n'), .int .i64 (.full f'), .int .i64 (.full p')] 145) (ends (env (G7 ++ rest) [(8, kfirst13), (14, kNumber), (25, kNum), (15, kAt), (16, kTo), (17, kOp), (18, kObjectRF), (10, kLinkF), (26, kWhere)]) Tryd.f6.results.toList))) = (
 RQ ((0 : Int) < (5 : Int)) (RQ (0 < IntKind.wrap IntKind.i64 (n' % 5 + (2 : Int))) (RQ ((0 : Int) < (40 : Int)) ((RQ (Ring (oN n') (oF n' f') (oP p') ∧ IntKind.wrap IntKind.i64 (n' % 5 + (2 : Int)) = (↑(oN n') : Int) ∧ ((2 : Int) ≤ (↑(oN n') : Int) ∧ (↑(oN n') : Int) ≤ 6) ∧ f' % IntKind.wrap IntKind.i64 (n' % 5 + (2 : Int)) = (↑(oF n' f') : Int) ∧ (0 ≤ (↑(oF n' f') : Int) ∧ (↑(oF n' f') : Int) ≤ 6) ∧ p' % 40 = (↑(oP p') : Int) ∧ (0 ≤ (↑(oP p') : Int) ∧ (↑(oP p') : Int) ≤ 100) ∧ true = true ∧ (0 : Int) = (↑(0 : Nat) : Int) ∧ @List.nil (RT.ty RT.obj) = rgU (oN n') (oF n' f') (oP p') (0 : Nat) ∧ @List.nil (RT.ty RT.str) = rgN (oN n') (oF n' f') (0 : Nat)) ((↑(oN n') : Int) = (↑(oN n') : Int) ∧ (↑(oP p') : Int) = (↑(oP p') : Int) ∧ true = true ∧ rgU (oN n') (oF n' f') (oP p') (oN n') = rg (oN n') (oF n' f') (oP p') ∧ rgN (oN n') (oF n' f') (oN n') = rgN (oN n') (oF n' f') (oN n'))) ∧ RQ ((↑(oN n') : Int) = (↑(oN n') : Int) ∧ (↑(oP p') : Int) = (↑(oP p') : Int) ∧ true = true ∧ rg (oN n') (oF n' f') (oP p') = rg (oN n') (oF n' f') (oP p') ∧ rgN (oN n') (oF n' f') (oN n') = rgN (oN n') (oF n' f') (oN n') ∧ laidE (rg (oN n') (oF n' f') (oP p')) = FErr.fine ∧ (linkI (rg (oN n') (oF n' f') (oP p'))).entry = (linkI (rg (oN n') (oF n' f') (oP p'))).entry ∧ (linkI (rg (oN n') (oF n' f') (oP p'))).data = (linkI (rg (oN n') (oF n' f') (oP p'))).data ∧ (linkI (rg (oN n') (oF n' f') (oP p'))).code = (linkI (rg (oN n') (oF n' f') (oP p'))).code ∧ (linkI (rg (oN n') (oF n' f') (oP p'))).drefs = (linkI (rg (oN n') (oF n' f') (oP p'))).drefs ∧ (linkI (rg (oN n') (oF n' f') (oP p'))).places = (linkI (rg (oN n') (oF n' f') (oP p'))).places ∧ (linkI (rg (oN n') (oF n' f') (oP p'))).starts = (linkI (rg (oN n') (oF n' f') (oP p'))).starts) (IT (!!FErr.isErr FErr.fine || !decide ((↑(List.length (linkI (rg (oN n') (oF n' f') (oP p'))).code) : Int) = (↑(oN n') : Int) * ((↑(oP p') : Int) + 2))) (false = true) (RQ (Ring (oN n') (oF n' f') (oP p') ∧ (↑(oN n') : Int) = (↑(oN n') : Int) ∧ (↑(oP p') : Int) = (↑(oP p') : Int) ∧ true = true ∧ rg (oN n') (oF n' f') (oP p') = rg (oN n') (oF n' f') (oP p') ∧ rgN (oN n') (oF n' f') (oN n') = rgN (oN n') (oF n' f') (oN n') ∧ (0 : Int) = (↑(0 : Nat) : Int) ∧ (linkI (rg (oN n') (oF n' f') (oP p'))).entry = (linkI (rg (oN n') (oF n' f') (oP p'))).entry ∧ (linkI (rg (oN n') (oF n' f') (oP p'))).data = (linkI (rg (oN n') (oF n' f') (oP p'))).data ∧ (linkI (rg (oN n') (oF n' f') (oP p'))).code = (linkI (rg (oN n') (oF n' f') (oP p'))).code ∧ (linkI (rg (oN n') (oF n' f') (oP p'))).drefs = (linkI (rg (oN n') (oF n' f') (oP p'))).drefs ∧ (linkI (rg (oN n') (oF n' f') (oP p'))).places = (linkI (rg (oN n') (oF n' f') (oP p'))).places ∧ (linkI (rg (oN n') (oF n' f') (oP p'))).starts = (linkI (rg (oN n') (oF n' f') (oP p'))).starts) ((!FErr.isErr (whE (rg (oN n') (oF n' f') (oP p')) (ByteArray.mk #[(109 : UInt8), (97 : UInt8), (105 : UInt8), (110 : UInt8)])) && decide (whV (rg (oN n') (oF n' f') (oP p')) (ByteArray.mk #[(109 : UInt8), (97 : UInt8), (105 : UInt8), (110 : UInt8)]) = (linkI (rg (oN n') (oF n' f') (oP p'))).entry)) = true))))))) := by kernel_rfl
set_option maxHeartbeats 4000000 in
theorem cLinkOrder : Con ea has (G7 ++ rest) 6 kLinkOrder := by
 refine plain_mkB Tryd.func6 145 (con := [(8, kfirst13), (14, kNumber), (25, kNum), (15, kAt), (16, kTo), (17, kOp), (18, kObjectRF), (10, kLinkF), (26, kWhere)]) ⟨cfirst13, cNumber, cNum, cAt, cTo, cOp, cObjectRF, cLinkF, cWhere, trivial⟩ (fun hA hr hv => ?_) (by kernel_rfl) (by kernel_rfl) Tryd.ntmps6
 unfold kLinkOrder at hr; split at hr
 ·rename_i n' f' p'
  have := ret_ok hr; subst this
  refine ⟨_, [(10, LordA (oN n'.val) (oF n'.val f'.val) (oP p'.val)), (30, LordB (oN n'.val) (oF n'.val f'.val) (oP p'.val)), (2000026, cutL { fr := [(0, .int .i64 (.sym (oN n'.val : Int) 2 6)), (2, .int .i64 (.sym (oP p'.val : Int) 0 100)), (7, .bool (.lit true)), (8, .ro .obj (rg (oN n'.val) (oF n'.val f'.val) (oP p'.val))), (9, .ro .str (rgN (oN n'.val) (oF n'.val f'.val) (oN n'.val)))], hp := [], next := 0, sz := 145 }), (1000026, cutL { fr := [(0, .int .i64 (.sym (oN n'.val : Int) 2 6)), (2, .int .i64 (.sym (oP p'.val : Int) 0 100)), (7, .bool (.lit true)), (8, .ro .obj (rg (oN n'.val) (oF n'.val f'.val) (oP p'.val))), (9, .ro .str (rgN (oN n'.val) (oF n'.val f'.val) (oN n'.val))), (16, .ptr 0 0), (17, .err .fine)], hp := [(0, some (.cells (imgV (linkI (rg (oN n'.val) (oF n'.val f'.val) (oP p'.val))))))], next := 1, sz := 145 })], rfl, rfl, .of (argLinkOrder n' f' p') (by simp), rfl, (fun W R ρ0 own0 hown => hlN (bs := [loopN (bodyOf Tryd.f6) 0, loopN (bodyOf Tryd.f6) 1]) (by kernel_rfl) (fun b hb => by simp only [List.mem_cons, List.not_mem_nil, or_false] at hb; rcases hb with rfl | rfl; exact ⟨_, rfl, lordA (oN n'.val) (oF n'.val f'.val) (oP p'.val) hown⟩; exact ⟨_, rfl, lordB (oN n'.val) (oF n'.val f'.val) (oP p'.val) hown⟩)), .of (runLinkOrder rest n'.val f'.val p'.val) ?_⟩
  delta RQ IT
  clear hr
  have hN : n'.val % 5 + 2 = ((oN n'.val : Nat) : Int) ∧ 2 ≤ oN n'.val ∧ oN n'.val ≤ 6 := by unfold oN; omega
  have hw : IntKind.i64.wrap (n'.val % 5 + 2) = ((oN n'.val : Nat) : Int) := by rw [hN.1, IntKind.wrap_i64]; omega
  have f1 := Int.emod_nonneg f'.val (show ((oN n'.val : Nat) : Int) ≠ 0 by omega)
  have f2 := Int.emod_lt_of_pos f'.val (show (0 : Int) < ((oN n'.val : Nat) : Int) by omega)
  have hF : f'.val % ((oN n'.val : Nat) : Int) = ((oF n'.val f'.val : Nat) : Int) := by unfold oF; omega
  have hP : p'.val % 40 = ((oP p'.val : Nat) : Int) ∧ oP p'.val < 40 := by unfold oP; omega
  rw [hw, hF, hP.1]
  have R : Ring (oN n'.val) (oF n'.val f'.val) (oP p'.val) := ⟨by omega, by omega, by omega, by omega⟩
  rw [hF] at f1 f2
  generalize oF n'.val f'.val = f at *
  generalize oN n'.val = n at *
  generalize oP p'.val = p at *
  obtain ⟨e1, c1, c2, m1, m2⟩ := rg_img R
  have m1 : whE (rg n f p) ⟨#[109, 97, 105, 110]⟩ = .fine := m1
  have m2 : whV (rg n f p) ⟨#[109, 97, 105, 110]⟩ = _ := m2
  rw [m1, m2, e1, c1, decide_eq_true rfl, decide_eq_true rfl]
  have hf := rg_laid R
  obtain ⟨_, h2, h6⟩ := hN
  exact ⟨by omega, fun _ => ⟨by omega, fun _ => ⟨by omega, fun _ => ⟨⟨⟨R, rfl, ⟨by omega, by omega⟩, rfl, ⟨by omega, by omega⟩, rfl, ⟨by omega, by omega⟩, rfl, rfl, rfl, rfl⟩, fun _ => ⟨rfl, rfl, rfl, rfl, rfl⟩⟩, ⟨rfl, rfl, rfl, rfl, rfl, hf, rfl, rfl, rfl, rfl, rfl, rfl⟩, fun _ => ⟨fun g => absurd g (by decide), fun _ => ⟨⟨R, rfl, rfl, rfl, rfl, rfl, rfl, rfl, rfl, rfl, rfl, rfl, rfl⟩, fun _ => rfl⟩⟩⟩⟩⟩⟩
 ·cases hr
end
end Go.Proofs.YtacmmedhjebfjaaDoor
set_option linter.unusedVariables false
set_option linter.unusedSimpArgs false
set_option maxRecDepth 100000
namespace Go.Proofs.YtacmmedhjebfjaaDoor
open Go.ChangeShapes Go.RowKit Go.Sy
theorem own : ownKnob Tryd.prog.godebug = none := by kernel_rfl
theorem laidOut : laidOutB Tryd.prog = true := by kernel_rfl
section
variable {W : World} {H : Type} {enc : TypeId × Value → H} {C : Ctx} {R : Nat → Prop} {ρ : Nat → Option Value} {base : Nat} {sp : Nat → Bool} {held : Bool} {r : Reach} {b0 : Nat}
theorem open_num {v : Value} {d : DataW H} {ps : List MemPlace} (hv : Value.okWide Tryd.prog W r b0 3 v) (h : DataW.Trod enc Tryd.prog W base sp held 3 v d ps) :
  ∃ n : Int, v = .int .i64 n ∧ InI .i64 (.full n) := by
 obtain ⟨n, rfl, _, _, hw⟩ := open_int Tryd.underlying3 hv h
 exact ⟨n, rfl, wf_in hw⟩
end
def txt : DataW Unit → List UInt8
 | .iface _ (.ptr (.agg [.lit (.string s)])) => s
 | _ => []
def L7 : List Snt := [⟨"facade/api.ErrShape", 3, 102, txt Rows.laid_facade_api_ErrShape⟩, ⟨"facade/api.ErrRange", 7, 103, txt Rows.laid_facade_api_ErrRange⟩, ⟨"facade/api.ErrMany", 1, 104, txt Rows.laid_facade_api_ErrMany⟩,
 ⟨"facade/api.ErrOp", 6, 105, txt Rows.laid_facade_api_ErrOp⟩, ⟨"facade/api.ErrTwice", 2, 106, txt Rows.laid_facade_api_ErrTwice⟩, ⟨"facade/api.ErrNone", 0, 107, txt Rows.laid_facade_api_ErrNone⟩, ⟨"facade/api.ErrMap", 4, 109, txt Rows.laid_facade_api_ErrMap⟩]
abbrev nmE : String := "*errors.errorString"
theorem star : "*" ++ "errors.errorString" = nmE := by decide
theorem err_types : ErrTypes Tryd.prog 31 193 214 9 nmE where
 hi := ⟨_, Tryd.underlying31⟩
 row := fun u h => typeName_ptr_named (nm := "errors.errorString") (by rw [star]; kernel_rfl) (by kernel_rfl) (by decide) u (by rw [star]; exact h)
 hp := Tryd.underlying193
 he := ⟨_, Tryd.underlying214, rfl, rfl⟩
 hs := Tryd.underlying9
 ce := by kernel_rfl
 cs := by kernel_rfl
theorem named_of {L : List Snt} (h : (L.all fun x => Tryd.prog.globalNamed x.name == some x.g && (Tryd.prog.globals[x.g]?).map (·.type) == some 31) = true) : ∀ x ∈ L, Tryd.prog.globalNamed x.name = some x.g ∧ (Tryd.prog.globals[x.g]?).map (·.type) = some 31 := fun x hx => by
 have := List.all_eq_true.1 h x hx
 simpa using this
end Go.Proofs.YtacmmedhjebfjaaDoor
