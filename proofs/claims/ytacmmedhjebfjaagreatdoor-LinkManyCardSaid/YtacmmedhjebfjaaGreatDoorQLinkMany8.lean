/- Contracts that the proofs use. -/
import Derived.Test.YtacmmedhjebfjaaGreatDoorQLinkMany7
import Derived.Lib.ItoaLen
import Derived.Test.YtacmmedhjebfjaaGreatDoorRows
set_option linter.unusedVariables false
set_option linter.unusedSimpArgs false
set_option linter.unusedSectionVars false
namespace Go.Proofs.YtacmmedhjebfjaaGreatDoor
open Go.RowKit Go.Sy Go.Fac
structure Pow (ea : Ear) : Prop where
 pow : ∃ T s, ea.fix 16 = some (.cells (Lib.pow10Tab.map fun z => Value.int .u64 z).toArray T s)
theorem Trans.grown {C : Ctx} {gl : List (Nat × SVal)} {W : World} {R : Nat → Prop} {ρ : Nat → Option Value} {h : Nat → Option Cont} (M : Mem C gl W R ρ h) {k : Nat} {os : Array Obj} :
  Trans C gl W R ρ h [] (Sort.grow (W.drewN k) os) R ρ :=
 Trans.gen M rfl rfl rfl (by simp [Sort.grow, World.drewN]) (fun _ _ h => h) (fun _ _ h => .inl h)
  (fun j hj _ => by show (W.heap ++ os)[j]? = W.heap[j]?; exact Array.getElem?_append_left hj)
  (fun _ r c hf => by cases hf) (fun r r' c c' hf => by cases hf)
section
variable {ea : Ear} {has : Int → Prop} {gl : List (Nat × SVal)} [hpw : Nonempty (Pow ea)]
def itoaB (n : Int) : ByteArray := if -9223372036854775808 ≤ n ∧ n ≤ 9223372036854775807 then ⟨(Lib.itoa n).toArray⟩ else ByteArray.empty
theorem itoaB_of {n : Int} (h0 : -9223372036854775808 ≤ n) (h1 : n ≤ 9223372036854775807) : itoaB n = ⟨(Lib.itoa n).toArray⟩ := if_pos ⟨h0, h1⟩
theorem itoaB_size (n : Int) : (itoaB n).size ≤ 21 := by
 unfold itoaB; split
 ·rename_i h; exact Lib.itoa_length_le _ h.1 h.2
 ·decide
def kItoa : List SVal → Nat → Acc ORes := fun a n => match a with | [.int .i64 x] => .ret { v := .str (itoaB x.val) } | _ => .fail "Itoa"
theorem cItoa : Con ea has gl 17 kItoa where
 call := enters Tryz.func17 (c := bodyOf Tryz.f17) (by kernel_rfl) (by kernel_rfl)
 does {W R ρ h args vs next r l l'} M hA hr hv hn := by
  unfold kItoa at hr; split at hr
  ·rename_i x
   have := ret_ok hr; subst this
   have hi := DenA.i0 hA
   obtain ⟨⟨T, s, hf⟩⟩ := hpw
   have tab : Lib.TabIs Tryz.prog W "internal/strconv.uint64pow10" .u64 Lib.pow10Tab := by
    unfold Lib.TabIs World.var?
    rw [show Tryz.prog.globalNamed "internal/strconv.uint64pow10" = some 16 from by kernel_rfl, Option.bind_some, (M.base.fix _ _ hf).2]
   cases hA with | cons _ v _ us h1 h2 => ?_
   cases h2
   obtain ⟨rfl, _⟩ := h1.int_inv
   exact (Tryz.strconv_Itoa x.val hi.lo hi.hi W tab).mono fun e w' ⟨he, k, os, hw⟩ => ⟨_, R, ρ, he, hw ▸ Trans.grown M, itoaB_of hi.lo hi.hi ▸ .str _ (Nat.le_trans (itoaB_size _) (by decide))⟩
  ·cases hr
def kNum : List SVal → Nat → Acc ORes := fun a n => match a with | [.int .i64 n] => .ret ({ v := .str (itoaB n.val) }) | _ => .fail "Num"
theorem argNum (n : SI) : (all (subL tAtN none' [] deep [.int .i64 n] [.int .i64 (.full n.val)])) = (
 SI.val n = SI.val n) := by kernel_rfl
theorem runNum (gl : List (Nat × SVal)) (n : Int) : (Tr.sat (plainQ (.str (itoaB n))) (run (env gl [(17, kItoa)]) [] (bodyOf Tryz.f8) (start [.int .i64 (.full n)] 5) (ends (env gl [(17, kItoa)]) Tryz.f8.results.toList))) = (
 itoaB n = itoaB n) := by kernel_rfl
set_option maxHeartbeats 4000000 in
theorem cNum : Con ea has gl 8 kNum := by
 refine plain_mkB Tryz.func8 5 (con := [(17, kItoa)]) ⟨cItoa, trivial⟩ (fun hA hr hv => ?_) (by kernel_rfl) (by kernel_rfl) Tryz.ntmps8
 unfold kNum at hr; split at hr
 ·rename_i n
  have := ret_ok hr; subst this
  refine ⟨_, [], rfl, rfl, .of (argNum n) (by simp), rfl, (fun W R ρ0 own0 hown => noSums (by kernel_rfl)), .of (runNum gl n.val) ?_⟩
  clear hr
  rfl
 ·cases hr
end
end Go.Proofs.YtacmmedhjebfjaaGreatDoor
set_option linter.unusedVariables false
set_option linter.unusedSimpArgs false
namespace Go.Proofs.YtacmmedhjebfjaaGreatDoor
open Go.RowKit Go.Sy Go.Fac
theorem firstE_none {f : Nat → FErr} : ∀ {n : Nat}, (∀ i, i < n → (f i).isErr = false) → firstE f n = .fine
 | 0, _ => rfl
 | n + 1, h => firstE_fine (firstE_none fun i hi => h i (by omega)) (h n (by omega))
theorem vBE_ok {o : Ob} (h1 : o.code.length ≤ 2048) (h2 : o.map.length = o.code.length) (h3 : o.data.length ≤ 2048) (h4 : o.drels.length ≤ 1024) (h5 : o.crels.length ≤ 1024) (h6 : o.syms.length ≤ 256)
  (h7 : ∀ i, i < o.code.length → (wordBE o.code o.map i).isErr = false) (h8 : ∀ i, i < o.syms.length → (syE o.data o.code o.map o.syms i).isErr = false)
  (h9 : ∀ i, i < o.drels.length → (drE o.data o.drels o.syms i).isErr = false) (h10 : ∀ i, i < o.crels.length → (crE o.code o.map o.crels o.syms i).isErr = false) (h11 : ∀ i, i < o.code.length → (needE o.code o.map o.crels i).isErr = false) : vBE o = .fine := by
 have e1 : manyB o.data o.code o.drels o.crels o.syms = false := by
  unfold manyB
  simp only [Bool.or_eq_false_iff, decide_eq_false_iff_not]; omega
 have e3 : firstE (wdBE o.code o.map) o.code.length = .fine := firstE_none h7
 have e4 := firstE_none h8
 have e5 := firstE_none h9
 have e6 := firstE_none h10
 have e7 := firstE_none h11
 unfold vBE validBE relocsE
 rw [if_neg (by rw [e1]; simp), if_neg (by simp; omega), e3, e4, e5, e6, e7]
 simp [FErr.isErr]
def Uniq (l : List Ob) : Prop := ∀ o s o' s' : Nat, o < l.length → o' < l.length → s < (obN l o).syms.length → s' < (obN l o').syms.length → expS (syO l o s) → expS (syO l o' s') → (syO l o s).name = (syO l o' s').name → o = o' ∧ s = s'
theorem nmS_ok {l : List Ob} (U : Uniq l) {i : Nat} (hi : i < l.length) {g : Glb} (h0 : NmI l i 0 g) : ∀ j, j ≤ (obN l i).syms.length → (nmS i (obN l i).syms g j).1 = .fine
 | 0, _ => rfl
 | j + 1, hj => by
  have ih := nmS_ok U hi h0 j (by omega)
  have I := nmS_inv h0 j (by omega) ih
  rw [nmS, if_neg (by rw [ih]; simp [FErr.isErr])]
  show (nmStep i j (syO l i j) _).1 = .fine
  unfold nmStep
  by_cases hx : expB (syO l i j) = false
  ·rw [if_pos hx]
  ·rw [if_neg hx]
   have hx : expS (syO l i j) := expB_iff.1 (by simpa using hx)
   by_cases hh : glH (nmS i (obN l i).syms g j).2 (syO l i j).name = true
   ·obtain ⟨o, s, _, h2, h3, h4, h5⟩ := I.fnd _ hh
    obtain ⟨rfl, rfl⟩ := U o s i j (by omega) hi h3 (by omega) h5 hx h4
    omega
   ·rw [if_neg hh]
theorem nmO_ok {l : List Ob} (U : Uniq l) (hv : ∀ i, i < l.length → vBE (obN l i) = .fine) : ∀ i, i ≤ l.length → (nmO l i).1 = .fine
 | 0, _ => rfl
 | i + 1, h => by
  have ih := nmO_ok U hv i (by omega)
  rw [nmO, if_neg (by rw [ih]; simp [FErr.isErr]), if_neg (by rw [hv i (by omega)]; simp [FErr.isErr])]
  exact nmS_ok U (by omega) (nmO_inv l i ih).1 _ (Nat.le_refl _)
theorem glG_at {l : List Ob} (hf : (nmO l l.length).1 = .fine) {o s : Nat} (ho : o < l.length) (hs : s < (obN l o).syms.length) (hx : expS (syO l o s)) : glH (nmG l) (syO l o s).name = true ∧ glG (nmG l) (syO l o s).name = ((o : Int), (s : Int)) :=
 (nmO_inv l _ hf).1.all o s (.inl ho) hs hx
theorem plS_two {l : List Ob} {g : Glb} (G : NmG l g) : ∀ n, n ≤ oBs l l.length → plN l g n ≤ 2 * n
 | 0, _ => Int.le_refl _
 | n + 1, h => by
  have ih := plS_two G n (by omega)
  have hc := itF_size l g (show n < oBs l l.length by omega)
  show plS (itF l g) (loF l g) (n + 1) ≤ _
  have ih : plS (itF l g) (loF l g) n ≤ 2 * n := ih
  rw [plS]
  split
  ·rename_i hlo
   obtain ⟨o, w, I⟩ := itAt (l := l) (show n < oBs l l.length by omega)
   have := I.one G (lo_br hlo)
   omega
  ·omega
theorem sumS_two (l : List Ob) (g : Glb) : sumS (itF l g) (itF l g).length ≤ 2 * (oBs l l.length : Nat) := by
 have h := sumS_le l g (itF l g).length (by rw [brO_len]; exact Nat.le_refl _)
 have e : (itF l g).length = oBs l l.length := brO_len l g _
 rw [e] at h ⊢; exact h.2
structure Lks (l : List Ob) : Prop where
 few : l.length ≤ 16
 val : ∀ i, i < l.length → vBE (obN l i) = .fine
 uniq : Uniq l
 abs : ∀ i s, i < l.length → s < (obN l i).syms.length → (syO l i s).in_ = 3 → ∃ o t, o < l.length ∧ t < (obN l o).syms.length ∧ expS (syO l o t) ∧ (syO l o t).name = (syO l i s).name
 jump : ∀ i j, i < l.length → j < (obN l i).crels.length → jumpsB (obN l i).code (obN l i).map (relN l i j).at_ (relN l i j).kind = true →
  ∃ o t, o < l.length ∧ t < (obN l o).syms.length ∧ (syO l o t).in_ ≠ 1 ∧ realM l (nmG l) i (relN l i j).sym = (((o : Nat) : Int), ((t : Nat) : Int))
 main : ∃ o t, o < l.length ∧ t < (obN l o).syms.length ∧ expS (syO l o t) ∧ (syO l o t).name = mainT ∧ (syO l o t).in_ = 2
theorem Lks.names {l : List Ob} (L : Lks l) : namesE l = .fine ∧ (nmO l l.length).1 = .fine ∧ NmG l (nmG l) := by
 have hf := nmO_ok L.uniq L.val l.length (Nat.le_refl _)
 have h2 : idxM (noneO l (nmG l)) l.length = l.length := idxM_none fun i hi => by
  unfold noneO
  rw [decide_eq_false_iff_not, Decidable.not_not]
  refine idxM_none fun s hs => ?_
  unfold noneB
  by_cases h3 : (syO l i s).in_ = 3
  ·obtain ⟨o, t, h4, h5, h6, h7⟩ := L.abs i s hi hs h3
   have := (glG_at hf h4 h5 h6).1
   rw [h7] at this
   rw [this]; simp
  ·rw [decide_eq_false h3]; rfl
 have h3 : idxM (toO l (nmG l)) l.length = l.length := idxM_none fun i hi => by
  unfold toO
  rw [decide_eq_false_iff_not, Decidable.not_not]
  refine idxM_none fun j hj => ?_
  unfold toB
  by_cases hJ : jumpsB (obN l i).code (obN l i).map (relN l i j).at_ (relN l i j).kind = true
  ·obtain ⟨o, t, _, _, h5, h6⟩ := L.jump i j hi hj hJ
   rw [hJ, h6]
   simp only [symAt_nat]
   rw [decide_eq_false h5]; rfl
  ·rw [show jumpsB (obN l i).code (obN l i).map (relN l i j).at_ (relN l i j).kind = false by simpa using hJ]; rfl
 have h4 : noMain l (nmG l) = false := by
  obtain ⟨o, t, m1, m2, m3, m4, m5⟩ := L.main
  obtain ⟨g1, g2⟩ := glG_at hf m1 m2 m3
  rw [m4] at g1 g2
  unfold noMain
  rw [g1, g2]
  simp only [symAt_nat, m5]; rfl
 refine ⟨?_, hf, nmG_ok L.few hf h2⟩
 unfold namesE
 rw [if_neg (by rw [hf]; simp [FErr.isErr]), if_neg (by rw [h2]; simp), if_neg (by rw [h3]; simp), if_neg (by rw [h4]; simp)]
theorem Lks.ok {l : List Ob} (L : Lks l) (hd : oDn l l.length ≤ 2048) (hw : oBs l l.length ≤ 1024) : laidE l = .fine := by
 obtain ⟨h1, _, G⟩ := L.names
 have hs := sumS_two l (nmG l)
 have e : (itF l (nmG l)).length = oBs l l.length := brO_len l (nmG l) _
 have hp := plS_two G (oBs l l.length) (Nat.le_refl _)
 have hm : manyL l (nmG l) = false := by
  unfold manyL
  rw [Bool.or_eq_false_iff, decide_eq_false_iff_not, decide_eq_false_iff_not]; omega
 have hp' : plS (itF l (nmG l)) (rlx (itF l (nmG l))) (itF l (nmG l)).length ≤ 2048 := by
  rw [e]; exact Int.le_trans hp (by omega)
 unfold laidE layE
 rw [if_neg (by have := L.few; omega), h1, if_neg (by simp [FErr.isErr]), if_neg (by rw [hm]; simp), if_neg (by omega)]
theorem linkI_ok {l : List Ob} (h : laidE l = .fine) : linkI l = imgM l (nmG l) := by
 unfold linkI; rw [h]; rfl
theorem oSt_fold (ls : List Ln) : ∀ i, i ≤ ls.length → oSt ls i = (ls.take i).foldl (fun s x => oStep x s) ⟨[], [], [], []⟩
 | 0, _ => rfl
 | i + 1, h => by
  rw [oSt, oSt_fold ls i (by omega), take_get1 ls RT.line.dflt (show i < ls.length by omega), List.foldl_append]; rfl
theorem oAll_fold (ls : List Ln) : oAll ls = ls.foldl (fun s x => oStep x s) ⟨[], [], [], []⟩ := by
 rw [oAll, oSt_fold ls _ (Nat.le_refl _), List.take_length]
theorem fold_nop (n : Nat) (s : OS) : (List.replicate n (opL 1 [])).foldl (fun s x => oStep x s) s = { s with code := s.code ++ List.replicate n 16777216, map := s.map ++ List.replicate n 1 } := by
 induction n generalizing s with
 | zero => simp
 | succ n ih =>
  rw [List.replicate_succ, List.foldl_cons, ih]
  have e : oStep (opL 1 []) s = { s with code := s.code ++ [16777216], map := s.map ++ [1] } := rfl
  rw [e]
  simp only [OS.mk.injEq, true_and, and_true]
  refine ⟨?_, ?_⟩ <;> (rw [List.append_assoc, List.replicate_succ]; rfl)
theorem getD_rep {α : Type} (n : Nat) (x d : α) {i : Nat} (h : i < n) : (List.replicate n x).getD i d = x := by
 rw [List.getD_eq_getElem?_getD, List.getElem?_replicate, if_pos h]; rfl
end Go.Proofs.YtacmmedhjebfjaaGreatDoor
set_option linter.unusedVariables false
set_option linter.unusedSimpArgs false
namespace Go.Proofs.YtacmmedhjebfjaaGreatDoor
open Go.RowKit Go.Sy Go.Fac
def mkO (d : List Int) (ls : List Ln) : Ob := ⟨d, (oAll ls).code, (oAll ls).map, [], (oAll ls).cr, (oAll ls).sy⟩
theorem beg_of {c m : List Int} {i : Nat} (hi : i < c.length) (hm : m.length = c.length) (h1 : m.getD i 0 = 1) : begM c m i = true := by
 unfold begM
 rw [Int.toNat_natCast, h1, decide_eq_false (by omega), decide_eq_false (by omega), decide_eq_false (by omega)]; rfl
theorem ins_of {c m : List Int} {i : Nat} (hi : i < c.length) (hm : m.length = c.length) (h1 : m.getD i 0 = 1) (hok : ofOk (c.getD i 0) = true) : insB c m i = true ∧ insI c m i = ofF (c.getD i 0) (nextW c i) ∧ (insI c m i).op = c.getD i 0 / 16777216 := by
 have hb := beg_of hi hm h1
 have e : insI c m i = ofF (c.getD i 0) (nextW c i) := by unfold insI; rw [if_pos hb, Int.toNat_natCast]
 refine ⟨by unfold insB; rw [hb, Int.toNat_natCast, hok]; rfl, e, by rw [e]; unfold ofF; rw [if_pos hok]⟩
theorem word_ok {c m : List Int} {i : Nat} (hi : i < c.length) (hm : m.length = c.length) (h1 : m.getD i 0 = 1) (hok : ofOk (c.getD i 0) = true) (hc : isaClass (c.getD i 0 / 16777216) ≠ 4) (ht : isaTwo (c.getD i 0 / 16777216) = false ∨ (i + 1 < c.length ∧ m.getD (i + 1) 0 = 0)) : (wordBE c m i).isErr = false := by
 obtain ⟨i1, _, i3⟩ := ins_of hi hm h1 hok
 have hcall : callB c m i = false := by unfold callB; rw [i3, decide_eq_false hc]; rfl
 unfold wordBE
 rw [Int.toNat_natCast, if_pos h1, i1, hcall, i3]
 rw [if_neg (by decide)]
 rcases ht with ht | ⟨ht, ht2⟩
 ·rw [ht]; rfl
 ·have e3 : ((i : Int) + 1).toNat = i + 1 := by omega
  rw [e3, ht2, decide_eq_false (by omega)]; simp [FErr.isErr]
theorem need_no {c m : List Int} {cr : List Rel} {i : Nat} (h : insB c m i = false ∨ (shortM (insI c m i).op = false ∧ farM (insI c m i).op = false ∧ (insI c m i).op ≠ 15)) : (needE c m cr i).isErr = false := by
 unfold needE
 rcases h with h | ⟨h1, h2, h3⟩
 ·rw [h]; simp [FErr.isErr]
 ·rw [h1, h2, decide_eq_false h3]; simp [FErr.isErr]
theorem syE_code {d c m : List Int} {sy : List Sm} {i : Nat} {x : Sm} (hx : sy.getD i RT.sym.dflt = x) (hn : symOk x.name = true) (hm : mapGet (mpS sy i) x.name = 0) (h2 : x.in_ = 2) (hv : 0 ≤ x.value) (hv2 : x.value < c.length) (hv3 : m.getD x.value.toNat 0 = 1) : (syE d c m sy i).isErr = false := by
 unfold syE symE
 rw [hx, hm, hn, if_neg (by decide), if_neg (by decide)]
 have : symFine d c m x.in_ x.value x.global = true := by
  unfold symFine
  rw [if_neg (by omega), if_pos h2, hv3, decide_eq_true hv, decide_eq_true hv2]; rfl
 rw [if_pos this]; rfl
end Go.Proofs.YtacmmedhjebfjaaGreatDoor
set_option linter.unusedVariables false
set_option linter.unusedSimpArgs false
namespace Go.Proofs.YtacmmedhjebfjaaGreatDoor
open Go.RowKit Go.Sy Go.Fac
def fT (k : Nat) : ByteArray := ⟨#[102]⟩ ++ itoaB k
def nmT (k : Nat) : ByteArray := if k = 0 then mainT else fT k
theorem all2 {n : Nat} {f : Nat → Nat → Bool} (h : ((List.range n).all fun j => (List.range n).all fun k => f j k) = true) {j k : Nat} (hj : j < n) (hk : k < n) : f j k = true :=
 List.all_eq_true.1 (List.all_eq_true.1 h j (List.mem_range.2 hj)) k (List.mem_range.2 hk)
theorem nm_inj {j k : Nat} (hj : j < 18) (hk : k < 18) (h : nmT j = nmT k) : j = k := by
 have := all2 (n := 18) (f := fun j k => decide (nmT j = nmT k → j = k)) (by decide +kernel) hj hk
 exact of_decide_eq_true this h
theorem nm_ok {k : Nat} (hk : k < 18) : symOk (nmT k) = true := by
 have : ((List.range 18).all fun k => symOk (nmT k)) = true := by decide +kernel
 exact List.all_eq_true.1 this k (List.mem_range.2 hk)
theorem nm_ne {k : Nat} (hk : k < 18) : nmT k ≠ ByteArray.empty := by
 have : ((List.range 18).all fun k => decide (nmT k ≠ ByteArray.empty)) = true := by decide +kernel
 exact of_decide_eq_true (List.all_eq_true.1 this k (List.mem_range.2 hk))
theorem fold_at {a : ByteArray} (h : a ≠ ByteArray.empty) : oStep ⟨⟨0, 0, 0, 0, 0⟩, a, ByteArray.empty, false⟩ (⟨[], [], [], []⟩ : OS) = ⟨[], [], [], [⟨a, 2, 0, true⟩]⟩ := by
 unfold oStep
 rw [if_pos h]; rfl
end Go.Proofs.YtacmmedhjebfjaaGreatDoor
set_option linter.unusedVariables false
set_option linter.unusedSimpArgs false
namespace Go.Proofs.YtacmmedhjebfjaaGreatDoor
open Go.RowKit Go.Sy Go.Fac
theorem mpJ_all (f : Int → Int) (st x : List Int) : ∀ j, j ≤ st.length → mpJ f st x j = x ++ (st.take j).map f
 | 0, _ => by simp [mpJ]
 | j + 1, h => by
  rw [mpJ, mpJ_all f st x j (by omega), List.append_assoc]
  congr 1
  rw [take_get1 st 0 (show j < st.length by omega), List.map_append]; rfl
theorem mpO_succ (f : Nat → Int → Int) (l : List Ob) (i : Nat) : mpO f l (i + 1) = mpO f l i ++ (stO (obN l i)).map (f i) := by
 rw [mpO, mpJ_all _ _ _ _ (Nat.le_refl _), List.take_length]
def sV (l : List Ob) (g : Glb) (i : Nat) (w : Int) : Int := plN l g (pix l i w.toNat)
theorem starts_in {l : List Ob} {g : Glb} (G : NmG l g) {i : Nat} (hi : i < l.length) : ∀ w, w ≤ (obN l i).map.length → (ptN l g (oBs l i + rk (obN l i).map w)).starts = (ptN l g (oBs l i)).starts ++ (startsF (obN l i).code (obN l i).map w).map (sV l g i)
 | 0, _ => by simp [rk, startsF]
 | w + 1, h => by
  have ih := starts_in G hi w (by omega)
  have hmc := (G.val i hi).map
  by_cases hm : (obN l i).map.getD w 0 = 0
  ·have e1 : rk (obN l i).map (w + 1) = rk (obN l i).map w := by rw [rk, if_pos hm]; omega
   have e2 : startsF (obN l i).code (obN l i).map (w + 1) = startsF (obN l i).code (obN l i).map w := by rw [startsF, if_neg (by omega)]
   rw [e1, e2]; exact ih
  ·have e1 : oBs l i + rk (obN l i).map (w + 1) = oBs l i + rk (obN l i).map w + 1 := by rw [rk, if_neg hm]; omega
   have I := itAt_of hi (show w < (obN l i).map.length by omega) hm
   have hn : oBs l i + rk (obN l i).map w = pix l i w := rfl
   have hlt := pix_lt (l := l) hi (show w < (obN l i).map.length by omega) hm
   have hp := ptN_pos G (pix l i w) (by omega)
   rw [e1, ptN, ptM_eq]
   show (ptN l g (oBs l i + rk (obN l i).map w)).starts ++ ckS l (oBs l i + rk (obN l i).map w) (ptN l g (oBs l i + rk (obN l i).map w)).code.length = _
   rw [ih, hn, hp, List.append_assoc]
   congr 1
   unfold ckS
   rw [I.own]
   simp only [Int.toNat_natCast]
   by_cases h1 : (obN l i).map.getD w 0 = 1
   ·rw [if_pos h1, startsF, if_pos ⟨h1, by omega⟩, List.map_append]
    congr 1
   ·rw [if_neg h1, startsF, if_neg (fun h => h1 h.1), List.append_nil]
theorem starts_all {l : List Ob} {g : Glb} (G : NmG l g) : ∀ i, i ≤ l.length → (ptN l g (oBs l i)).starts = mpO (sV l g) l i
 | 0, _ => rfl
 | i + 1, h => by
  rw [oBs, starts_in G (show i < l.length by omega) _ (Nat.le_refl _), starts_all G i (by omega), mpO_succ]
theorem starts_eq {l : List Ob} {g : Glb} (K : LkOk l g) : (imgM l g).starts = mpO (sV l g) l l.length := by
 unfold imgM; rw [K.bs.2.1]; exact starts_all K.nm _ (Nat.le_refl _)
end Go.Proofs.YtacmmedhjebfjaaGreatDoor
set_option linter.unusedVariables false
set_option linter.unusedSimpArgs false
namespace Go.Proofs.YtacmmedhjebfjaaGreatDoor
open Go.RowKit Go.Sy Go.Fac
def NoBr (l : List Ob) : Prop := ∀ i j, i < l.length → j < (obN l i).crels.length → (relN l i j).kind ≠ 2
theorem nobr_itF {l : List Ob} (h : NoBr l) (g : Glb) : itF l g = oIt l l.length := by
 have hJ : ∀ i, i < l.length → ∀ its j, j ≤ (obN l i).crels.length → brJ l g i its j = its := fun i hi its j => by
  induction j with
  | zero => intro _; rfl
  | succ j ih => intro hj; rw [brJ, ih (by omega), brS, if_neg (h i j hi (by omega))]
 have hO : ∀ i, i ≤ l.length → brO l g i = oIt l l.length := fun i => by
  induction i with
  | zero => intro _; rfl
  | succ i ih => intro hi; rw [brO, ih (by omega)]; exact hJ i (by omega) _ _ (Nat.le_refl _)
 exact hO _ (Nat.le_refl _)
theorem nobr_b {l : List Ob} (h : NoBr l) (g : Glb) (n : Nat) : itB (itF l g) n = false := by rw [nobr_itF h]; exact (oIt_zero l _ n).2
theorem nobr_lo {l : List Ob} (h : NoBr l) (g : Glb) (n : Nat) : (loF l g).getD n false = false := by
 cases e : (loF l g).getD n false with
 | false => rfl
 | true => have := lo_br e; rw [nobr_b h] at this; cases this
theorem nobr_pl {l : List Ob} (h : NoBr l) (g : Glb) : ∀ n, plN l g n = sumS (itF l g) n
 | 0 => rfl
 | n + 1 => by
  have ih : plS (itF l g) (loF l g) n = sumS (itF l g) n := nobr_pl h g n
  show plS (itF l g) (loF l g) (n + 1) = sumS (itF l g) (n + 1)
  rw [plS, sumS, ih, nobr_lo h, if_neg (by decide), Int.add_zero]
def tl (c m : List Int) : Nat → Int
 | 0 => 0
 | w + 1 => tl c m w + if m.getD w 0 = 0 then 0 else szW c m w
def wdS (l : List Ob) : Nat → Int
 | 0 => 0
 | o + 1 => wdS l o + tl (obN l o).code (obN l o).map (obN l o).map.length
theorem sum_in {l : List Ob} (g : Glb) {o : Nat} (ho : o < l.length) (hs : sumS (itF l g) (oBs l o) = wdS l o) : ∀ w, w ≤ (obN l o).map.length → sumS (itF l g) (pix l o w) = wdS l o + tl (obN l o).code (obN l o).map w
 | 0, _ => by show sumS (itF l g) (oBs l o + 0) = _; rw [Nat.add_zero, hs]; exact (Int.add_zero _).symm
 | w + 1, hw => by
  have ih := sum_in g ho hs w (by omega)
  unfold pix at ih ⊢
  rw [rk, tl]
  by_cases hm : (obN l o).map.getD w 0 = 0
  ·rw [if_pos hm, if_pos hm, Nat.add_zero, ih]; omega
  ·rw [if_neg hm, if_neg hm, ← Nat.add_assoc, sumS, ih]
   have e : itS (itF l g) (pix l o w) = szW (obN l o).code (obN l o).map w := by
    rw [brO_size]; unfold itS
    rw [oIt_get l itT.dflt (by omega) hm l.length ho]
   unfold pix at e
   rw [e]; omega
theorem sum_at {l : List Ob} (g : Glb) : ∀ o, o ≤ l.length → sumS (itF l g) (oBs l o) = wdS l o
 | 0, _ => rfl
 | o + 1, ho => by
  have h := sum_in g (show o < l.length by omega) (sum_at g o (by omega)) _ (Nat.le_refl _)
  exact h
theorem tl_one {c m : List Int} : ∀ {k : Nat}, (∀ w, w < k → m.getD w 0 ≠ 0 ∧ szW c m w = 1) → tl c m k = k
 | 0, _ => rfl
 | k + 1, h => by
  obtain ⟨h1, h2⟩ := h k (by omega)
  rw [tl, tl_one (fun w hw => h w (by omega)), if_neg h1, h2]; rfl
theorem wdS_all {l : List Ob} {k : Int} (h : ∀ o, o < l.length → tl (obN l o).code (obN l o).map (obN l o).map.length = k) : ∀ o, o ≤ l.length → wdS l o = k * o
 | 0, _ => by simp [wdS]
 | o + 1, ho => by
  rw [wdS, wdS_all h o (by omega), h o (by omega), Int.natCast_succ, Int.mul_add, Int.mul_one]
theorem oDn_all {l : List Ob} {k : Int} (h : ∀ o, o < l.length → ((obN l o).data.length : Int) = k) : ∀ o, o ≤ l.length → oDn l o = k * o
 | 0, _ => by simp [oDn]
 | o + 1, ho => by rw [oDn, oDn_all h o (by omega), h o (by omega), Int.natCast_succ, Int.mul_add, Int.mul_one]
theorem nobr_len {l : List Ob} {g : Glb} (K : LkOk l g) (h : NoBr l) : ((imgM l g).code.length : Int) = wdS l l.length := by
 rw [code_len K, nobr_pl h, sum_at g _ (Nat.le_refl _)]
end Go.Proofs.YtacmmedhjebfjaaGreatDoor
set_option linter.unusedVariables false
set_option linter.unusedSimpArgs false
namespace Go.Proofs.YtacmmedhjebfjaaGreatDoor
open Go.RowKit Go.Sy Go.Fac
def manL (nm : ByteArray) (w : Nat) : List Ln := [⟨⟨0, 0, 0, 0, 0⟩, nm, ByteArray.empty, false⟩] ++ List.replicate w (opL 1 [])
def manO (nm : ByteArray) (w : Nat) : Ob := ⟨[], List.replicate w 16777216, List.replicate w 1, [], [], [⟨nm, 2, 0, true⟩]⟩
def mU (w : Nat) (i : Nat) : List Ob := (List.range i).map fun i => manO (nmT i) w
theorem mU_succ (w : Nat) (i : Nat) : mU w (i + 1) = mU w i ++ [manO (nmT i) w] := by unfold mU; rw [List.range_succ, List.map_append]; rfl
theorem mU_len (w n : Nat) : (mU w n).length = n := by simp [mU]
theorem mU_get {w n i : Nat} (h : i < n) : obN (mU w n) i = manO (nmT i) w := by
 unfold mU obN
 rw [List.getD_eq_getElem?_getD, List.getElem?_map, List.getElem?_range h]; rfl
theorem man_mk {nm : ByteArray} (h : nm ≠ ByteArray.empty) (w : Nat) : mkO [] (manL nm w) = manO nm w := by
 unfold mkO
 rw [oAll_fold, manL, List.foldl_append, List.foldl_cons, fold_at h, List.foldl_nil, fold_nop]; rfl
theorem man_ins {w i : Nat} (h : i < w) : insB (List.replicate w 16777216) (List.replicate w 1) i = true ∧ (insI (List.replicate w 16777216) (List.replicate w 1) i).op = 1 ∧ (List.replicate w (1 : Int)).getD i 0 = 1 ∧ (List.replicate w (16777216 : Int)).getD i 0 = 16777216 := by
 have m1 : (List.replicate w (1 : Int)).getD i 0 = 1 := getD_rep _ _ _ h
 have c1 : (List.replicate w (16777216 : Int)).getD i 0 = 16777216 := getD_rep _ _ _ h
 obtain ⟨i1, _, i3⟩ := ins_of (c := List.replicate w 16777216) (m := List.replicate w 1) (i := i) (by simpa using h) (by simp) m1 (by rw [c1]; decide)
 exact ⟨i1, by rw [i3, c1]; rfl, m1, c1⟩
theorem man_v {nm : ByteArray} (h1 : symOk nm = true) {w : Nat} (h0 : 1 ≤ w) (hw : w ≤ 151) : vBE (manO nm w) = .fine := by
 have hl : (List.replicate w (16777216 : Int)).length = w := List.length_replicate
 have hm : (List.replicate w (1 : Int)).length = w := List.length_replicate
 refine vBE_ok (o := manO nm w) ?_ ?_ ?_ ?_ ?_ ?_ (fun i hi => ?_) (fun i hi => ?_) (fun i hi => ?_) (fun i hi => ?_) (fun i hi => ?_)
 ·show (List.replicate w (16777216 : Int)).length ≤ 2048; omega
 ·show (List.replicate w (1 : Int)).length = (List.replicate w (16777216 : Int)).length; omega
 ·exact Nat.zero_le _
 ·exact Nat.zero_le _
 ·exact Nat.zero_le _
 ·show 1 ≤ 256; omega
 ·have hi : i < w := by rw [← hl]; exact hi
  obtain ⟨i1, i2, i3, i4⟩ := man_ins hi
  exact word_ok (c := List.replicate w 16777216) (m := List.replicate w 1) (by omega) (by omega) i3 (by rw [i4]; decide) (by rw [i4]; decide) (.inl (by rw [i4]; decide))
 ·have hi : i < 1 := hi
  have : i = 0 := by omega
  subst this
  exact syE_code (x := ⟨nm, 2, 0, true⟩) rfl h1 rfl rfl (Int.le_refl _) (by show (0 : Int) < ((List.replicate w (16777216 : Int)).length : Int); omega) (man_ins (i := 0) (by omega)).2.2.1
 ·exact absurd hi (Nat.not_lt_zero _)
 ·exact absurd hi (Nat.not_lt_zero _)
 ·have hi : i < w := by rw [← hl]; exact hi
  obtain ⟨i1, i2, i3, i4⟩ := man_ins hi
  refine need_no (.inr ?_)
  show shortM (insI (List.replicate w 16777216) (List.replicate w 1) (i : Int)).op = false ∧ farM (insI (List.replicate w 16777216) (List.replicate w 1) (i : Int)).op = false ∧ (insI (List.replicate w 16777216) (List.replicate w 1) (i : Int)).op ≠ 15
  rw [i2]; exact ⟨rfl, rfl, by decide⟩
structure Man (n w : Nat) : Prop where
 n1 : 13 ≤ n
 n2 : n ≤ 17
 w1 : 1 ≤ w
 w2 : w ≤ 151
theorem mu_sy {w n i : Nat} (hi : i < n) : syO (mU w n) i 0 = ⟨nmT i, 2, 0, true⟩ ∧ (obN (mU w n) i).syms.length = 1 := by
 unfold syO; rw [mU_get hi]; exact ⟨rfl, rfl⟩
theorem mu_lks {n w : Nat} (D : Man n w) (hn : n ≤ 16) : Lks (mU w n) := by
 have n1 := D.n1
 refine ⟨by rw [mU_len]; omega, fun i hi => ?_, fun o s o' s' ho ho' hs hs' he he' hnm => ?_, fun i s hi hs h3 => ?_, fun i j hi hj _ => ?_, ?_⟩
 ·rw [mU_len] at hi; rw [mU_get hi]; exact man_v (nm_ok (by omega)) D.w1 D.w2
 ·rw [mU_len] at ho ho'
  obtain ⟨a0, a2⟩ := mu_sy (w := w) ho
  obtain ⟨b0, b2⟩ := mu_sy (w := w) ho'
  rw [a2] at hs; rw [b2] at hs'
  have : s = 0 := by omega
  have : s' = 0 := by omega
  subst s s'
  rw [a0, b0] at hnm
  exact ⟨nm_inj (by omega) (by omega) hnm, rfl⟩
 ·rw [mU_len] at hi
  obtain ⟨a0, a2⟩ := mu_sy (w := w) hi
  rw [a2] at hs
  have : s = 0 := by omega
  subst this
  rw [a0] at h3; exact absurd h3 (show (2 : Int) ≠ 3 by decide)
 ·rw [mU_len] at hi; rw [mU_get hi] at hj; exact absurd hj (Nat.not_lt_zero _)
 ·obtain ⟨b0, b2⟩ := mu_sy (w := w) (i := 0) (show 0 < n by omega)
  exact ⟨0, 0, by rw [mU_len]; omega, by rw [b2]; omega, by rw [b0]; exact ⟨rfl, show (2 : Int) ≠ 3 by decide⟩, by rw [b0]; rfl, by rw [b0]⟩
theorem mu_nobr {n w : Nat} : NoBr (mU w n) := fun i j hi hj => by
 rw [mU_len] at hi; rw [mU_get hi] at hj; exact absurd hj (Nat.not_lt_zero _)
theorem mu_wd {n w : Nat} : ∀ o, o ≤ (mU w n).length → wdS (mU w n) o = (w : Int) * o :=
 wdS_all fun o ho => by
  rw [mU_len] at ho; rw [mU_get ho]
  show tl (List.replicate w 16777216) (List.replicate w 1) (List.replicate w (1 : Int)).length = w
  rw [List.length_replicate]
  refine tl_one fun v hv => ?_
  obtain ⟨i1, i2, i3, i4⟩ := man_ins hv
  refine ⟨by rw [i3]; decide, ?_⟩
  unfold szW twoB
  rw [i1, i2]; rfl
theorem mu_dn {n w : Nat} : oDn (mU w n) (mU w n).length = 0 := by
 rw [oDn_all (k := 0) (fun o ho => by rw [mU_len] at ho; rw [mU_get ho]; rfl) _ (Nat.le_refl _)]; omega
theorem st_all (c m : List Int) : ∀ k, k ≤ c.length → (∀ i, i < k → m.getD i 0 = 1) → (startsF c m k).length = k
 | 0, _, _ => rfl
 | k + 1, h, h1 => by
  unfold startsF
  rw [if_pos ⟨h1 k (by omega), by omega⟩, List.length_append, st_all c m k (by omega) (fun i hi => h1 i (by omega))]; rfl
theorem mu_st {n w : Nat} (f : Nat → Int → Int) : ∀ i, i ≤ n → (mpO f (mU w n) i).length = w * i
 | 0, _ => rfl
 | i + 1, hi => by
  rw [mpO_succ, List.length_append, List.length_map, mu_st f i (by omega), mU_get (show i < n by omega)]
  show w * i + (startsF (List.replicate w 16777216) (List.replicate w 1) (List.replicate w (1 : Int)).length).length = _
  rw [List.length_replicate, st_all _ _ w (by rw [List.length_replicate]; exact Nat.le_refl _) (fun i hi => getD_rep _ _ _ hi), Nat.mul_succ]
theorem mu_link {n w : Nat} (D : Man n w) : (16 < n ∨ 2048 < w * n → laidE (mU w n) = .bare 104 ∧ (linkI (mU w n)).code.length = 0) ∧
  (¬ (16 < n ∨ 2048 < w * n) → laidE (mU w n) = .fine ∧ (linkI (mU w n)).code.length = w * n ∧ (linkI (mU w n)).starts.length = w * n) := by
 have hlen := mU_len w n
 have hz : laidE (mU w n) = .bare 104 → (linkI (mU w n)).code.length = 0 := fun h => by
  unfold linkI; rw [if_pos (by rw [h]; rfl)]; rfl
 by_cases hn : 16 < n
 ·have e : laidE (mU w n) = .bare 104 := by unfold laidE; rw [if_pos (by rw [hlen]; exact hn)]
  exact ⟨fun _ => ⟨e, hz e⟩, fun h => absurd (.inl hn) h⟩
 ·have L := mu_lks D (by omega)
  obtain ⟨h1, _, G⟩ := L.names
  have eL : laidE (mU w n) = layE (mU w n) (nmG (mU w n)) := by
   unfold laidE; rw [if_neg (by rw [hlen]; exact hn), if_neg (by rw [h1]; simp [FErr.isErr])]
  have hi : (itF (mU w n) (nmG (mU w n))).length = oBs (mU w n) (mU w n).length := brO_len _ _ _
  have hs : sumS (itF (mU w n) (nmG (mU w n))) (itF (mU w n) (nmG (mU w n))).length = (w : Int) * n := by
   rw [hi, sum_at _ _ (Nat.le_refl _), mu_wd _ (Nat.le_refl _), hlen]
  have hc : ((w : Int) * n) = ((w * n : Nat) : Int) := by rw [Int.natCast_mul]
  have hM : manyL (mU w n) (nmG (mU w n)) = decide (2048 < w * n) := by
   unfold manyL
   rw [mu_dn, hs, hc, decide_eq_false (show ¬ (2048 : Int) < 0 by decide), Bool.false_or]
   by_cases h : 2048 < w * n
   ·rw [decide_eq_true h, decide_eq_true (by omega)]
   ·rw [decide_eq_false h, decide_eq_false (by omega)]
  by_cases hw : 2048 < w * n
  ·have e : laidE (mU w n) = .bare 104 := by rw [eL]; unfold layE; rw [hM, if_pos (decide_eq_true hw)]
   exact ⟨fun _ => ⟨e, hz e⟩, fun h => absurd (.inr hw) h⟩
  ·have hp : plS (itF (mU w n) (nmG (mU w n))) (rlx (itF (mU w n) (nmG (mU w n)))) (itF (mU w n) (nmG (mU w n))).length = (w : Int) * n := (nobr_pl mu_nobr (nmG (mU w n)) _).trans hs
   have e : laidE (mU w n) = .fine := by
    rw [eL]; unfold layE; rw [hM, if_neg (by rw [decide_eq_false hw]; decide), hp, if_neg (by omega)]
   refine ⟨fun h => absurd h (fun h => by omega), fun _ => ⟨e, ?_⟩⟩
   obtain ⟨K, _, _⟩ := laid_ok (show (laidE (mU w n)).isErr = false by rw [e]; rfl)
   rw [linkI_ok e]
   refine ⟨?_, ?_⟩
   ·have := nobr_len K mu_nobr
    rw [mu_wd _ (Nat.le_refl _), hlen] at this; omega
   ·rw [starts_eq K, hlen]; exact mu_st _ n (Nat.le_refl _)
end Go.Proofs.YtacmmedhjebfjaaGreatDoor
set_option linter.unusedVariables false
set_option linter.unusedSimpArgs false
namespace Go.Proofs.YtacmmedhjebfjaaGreatDoor
open Go.RowKit Go.Sy Go.Fac
def G9 : List (Nat × SVal) := [(5, .rop [.err (.bare 101)]), (8, .rop [.err (.bare 108)]), (9, .rop [.err (.bare 110)]), (10, .rop [.err (.bare 111)]), (11, .rop [.err (.bare 112)]), (12, .rop [.err (.bare 113)]), (13, .rop [.err (.bare 114)]), (14, .rop [.err (.bare 115)]), (15, .rop [.err (.bare 116)])]
section
variable {ea : Ear} {has : Int → Prop} {rest : List (Nat × SVal)}
def kAlike : List SVal → Nat → Acc ORes := fun a n => match a with | [.err a, .err b] => .ret ({ v := .bool (.sym (decide (a = b))), vc := some (b.isPlaced = false) }) | _ => .fail "Alike"
theorem argAlike (a b : FErr) : (all (subL tAtN none' [] deep [.err a, .err b] [.err a, .err b])) = (
 a = a ∧ b = b) := by kernel_rfl
theorem runAlike (rest : List (Nat × SVal)) (a : FErr) (b : FErr) : (Tr.sat (plainQ (.bool (.sym (decide (a = b))))) (run (env (G7 ++ (G9 ++ rest)) []) [] (bodyOf Tryz.f51) (start [.err a, .err b] 20) (ends (env (G7 ++ (G9 ++ rest)) []) Tryz.f51.results.toList))) = (
 IT (!FErr.isErr a || !FErr.isErr b) ((!FErr.isErr a && !FErr.isErr b) = decide (a = b)) (RQ ((FErr.isErr a = true ∧ FErr.isErr b = true) ∧ (FErr.isPlaced a = false ∨ FErr.isPlaced b = false)) (decide (a = b) = decide (a = b)))) := by kernel_rfl
set_option maxHeartbeats 4000000 in
theorem cAlike : Con ea has (G7 ++ (G9 ++ rest)) 51 kAlike := by
 refine plain_mkB Tryz.func51 20 (con := []) trivial (fun hA hr hv => ?_) (by kernel_rfl) (by kernel_rfl) Tryz.ntmps51
 unfold kAlike at hr; split at hr
 ·rename_i a b
  have := ret_ok hr; subst this
  replace hv := hv _ rfl
  refine ⟨_, [], rfl, rfl, .of (argAlike a b) (by simp), rfl, (fun W R ρ0 own0 hown => noSums (by kernel_rfl)), .of (runAlike rest a b) ?_⟩
  delta RQ IT
  clear hr
  refine ⟨fun h => ?_, fun h => ?_⟩
  ·cases a <;> cases b <;> simp [FErr.isErr] at h ⊢
  ·have : a.isErr = true ∧ b.isErr = true := by
    cases ha : a.isErr <;> cases hb : b.isErr <;> simp [ha, hb] at h ⊢
   exact ⟨⟨this, .inr hv⟩, fun _ => rfl⟩
 ·cases hr
def sentL : List FErr := [.bare 101, .bare 102, .bare 103, .bare 104, .bare 105, .bare 106, .bare 107, .bare 108, .bare 109, .bare 110, .bare 111, .bare 112, .bare 113, .bare 114, .bare 115, .bare 116]
def ksentinels : List SVal → Nat → Acc ORes := fun a n => match a with | [] => .ret ({ v := .ro .err sentL }) | _ => .fail "sentinels"
theorem argsentinels  : (all (subL tAtN none' [] deep [] [])) = (
 True) := by kernel_rfl
theorem runsentinels (rest : List (Nat × SVal)) : (Tr.sat (plainQ (.ro .err sentL)) (run (env (G7 ++ (G9 ++ rest)) []) [] (bodyOf Tryz.f50) (start [] 18) (ends (env (G7 ++ (G9 ++ rest)) []) Tryz.f50.results.toList))) = (
 [FErr.bare (101 : Int), FErr.bare (102 : Int), FErr.bare (103 : Int), FErr.bare (104 : Int), FErr.bare (105 : Int), FErr.bare (106 : Int), FErr.bare (107 : Int), FErr.bare (108 : Int), FErr.bare (109 : Int), FErr.bare (110 : Int), FErr.bare (111 : Int), FErr.bare (112 : Int), FErr.bare (113 : Int), FErr.bare (114 : Int), FErr.bare (115 : Int), FErr.bare (116 : Int)] = sentL) := by kernel_rfl
set_option maxHeartbeats 4000000 in
theorem csentinels : Con ea has (G7 ++ (G9 ++ rest)) 50 ksentinels := by
 refine plain_mkB Tryz.func50 18 (con := []) trivial (fun hA hr hv => ?_) (by kernel_rfl) (by kernel_rfl) Tryz.ntmps50
 unfold ksentinels at hr; split at hr
 ·skip
  have := ret_ok hr; subst this
  refine ⟨_, [], rfl, rfl, .of (argsentinels ) (by simp), rfl, (fun W R ρ0 own0 hown => noSums (by kernel_rfl)), .of (runsentinels rest ) ?_⟩
  clear hr
  rfl
 ·cases hr
def senP (e : FErr) (i : Nat) : Bool := decide (e = sentL.getD i .fine)
def senN (e : FErr) : Int := match e with
 | .bare n => if 101 ≤ n ∧ n ≤ 116 then n else -1
 | _ => -1
theorem sent_at : ∀ i, i < 16 → sentL.getD i RT.err.dflt = .bare (101 + (i : Int)) := by decide
theorem sen_not {e : FErr} (h : noneQ (senP e) 16 = true) : senN e = -1 := by
 rw [noneQ_iff] at h
 unfold senN
 split
 ·rename_i n
  split
  ·rename_i hn
   have h1 := h (n - 101).toNat (by omega)
   unfold senP at h1
   have e1 := sent_at (n - 101).toNat (by omega)
   rw [show RT.err.dflt = FErr.fine from rfl] at e1
   rw [e1, show (101 : Int) + ((n - 101).toNat : Int) = n by omega] at h1
   simp at h1
  ·rfl
 ·rfl
theorem senN_ne (e : FErr) : senN e ≠ 0 := by
 unfold senN; split <;> (try split) <;> omega
def Hsen (e : FErr) (i : Nat) : SState := { fr := [(0, .err e), (3, .ro .err sentL), (4, .int .i64 (.sym i 0 16))], hp := [], next := 0, sz := 20 }
def Xsen (e : FErr) : SState := { fr := [], hp := [], next := 0, sz := 20 }
def Ysen (e : FErr) : SState := { fr := [(2, .int .i64 (.full (senN e)))], hp := [], next := 0, sz := 20 }
def Lsen (e : FErr) : LSum := ⟨Hsen e 0, fun k => .ite (noneQ (senP e) 16) (k (.exit 0) (Xsen e)) (k .ret (Ysen e)), True⟩
theorem bsen (rest : List (Nat × SVal)) (e : FErr) (i : Nat) : (Tr.sat (rnd2 (env (G7 ++ (G9 ++ rest)) [(50, ksentinels), (51, kAlike)]) (fun i => noneQ (senP e) i = true) (16) (Hsen e) 0 (noneQ (senP e) 16) (Xsen e) (Ysen e) i) (run (env (G7 ++ (G9 ++ rest)) [(50, ksentinels), (51, kAlike)]) [] (loopN (bodyOf Tryz.f37) 0) (Hsen e i) .leaf)) = (
 IT (decide ((↑i : Int) < (↑(List.length sentL) : Int))) (RQ (0 ≤ (↑i : Int) ∧ (↑i : Int) < (↑(List.length sentL) : Int)) (RQ (FErr.isPlaced (List.getD sentL (Int.toNat (↑i : Int)) (RT.dflt RT.err)) = false) (IT (decide (e = List.getD sentL (Int.toNat (↑i : Int)) (RT.dflt RT.err))) (noneQ (senP e) (16 : Nat) = false ∧ (101 : Int) + (↑i : Int) = senN e) (i < 16 ∧ noneQ (senP e) (i + 1) = true ∧ e = e ∧ sentL = sentL ∧ (↑i : Int) + 1 = (↑(i + 1) : Int) ∧ 0 ≤ (↑(i + 1) : Int) ∧ (↑(i + 1) : Int) ≤ 16)))) (Nat.beq (0 : Nat) (0 : Nat) = true ∧ noneQ (senP e) (16 : Nat) = true ∧ True)) := by kernel_rfl
set_option maxHeartbeats 4000000 in
theorem lsen (e : FErr) {W : World} {R own0 : Nat → Prop} {ρ0 : Nat → Option Value} (hown : HownOk (env (G7 ++ (G9 ++ rest)) [(50, ksentinels), (51, kAlike)]) own0 ρ0) : LOk Tryz.prog (env (G7 ++ (G9 ++ rest)) [(50, ksentinels), (51, kAlike)]) (ctx ea has) (G7 ++ (G9 ++ rest)) W R own0 ρ0 (loopN (bodyOf Tryz.f37) 0) (Lsen e) := by
 refine loop2_ok (J := fun i => noneQ (senP e) i = true) (N := 16) (H := Hsen e) (X := Xsen e) (Y := Ysen e) (env_ok (con := [(50, ksentinels), (51, kAlike)]) ⟨csentinels, cAlike, trivial⟩) hown (ls := fun i => []) (fun i => noSums (by kernel_rfl)) (fun _ i hi hj => ?_) 0 (fun _ => by first | exact Nat.zero_le _ | omega) (fun _ => rfl)
 rw [bsen rest e i]
 delta RQ IT
 have hL : sentL.length = 16 := rfl
 simp only [Int.toNat_natCast, hL]
 refine ⟨fun h => ?_, fun h => ?_⟩
 ·have h := of_decide_eq_true h
  have hlt : i < 16 := by omega
  have hs := sent_at i hlt
  have hp : senP e i = decide (e = sentL.getD i RT.err.dflt) := rfl
  refine ⟨by omega, fun _ => ⟨by rw [hs]; rfl, fun _ => ⟨fun h2 => ⟨noneQ_at (hp.trans h2) hlt, ?_⟩, fun h2 => ⟨hlt, by rw [noneQ, hj, hp.trans h2]; rfl, trivial, trivial, by omega, by omega, by omega⟩⟩⟩⟩
  have h2 := of_decide_eq_true h2
  rw [h2, hs]
  unfold senN
  simp only
  rw [if_pos (by omega)]
 ·have h := of_decide_eq_false h
  have e1 : i = 16 := by omega
  subst e1
  exact ⟨rfl, hj, trivial⟩
def ksentinel : List SVal → Nat → Acc ORes := fun a n => match a with | [.err e] => .ret ({ v := .int .i64 (.full (senN e)) }) | _ => .fail "sentinel"
theorem argsentinel (e : FErr) : (all (subL tAtN none' [] deep [.err e] [.err e])) = (
 e = e) := by kernel_rfl
theorem runsentinel (rest : List (Nat × SVal)) (e : FErr) : (Tr.sat (plainQ (.int .i64 (.full (senN e)))) (run (env (G7 ++ (G9 ++ rest)) [(50, ksentinels), (51, kAlike)]) [(3, Lsen e)] (bodyOf Tryz.f37) (start [.err e] 20) (ends (env (G7 ++ (G9 ++ rest)) [(50, ksentinels), (51, kAlike)]) Tryz.f37.results.toList))) = (
 RQ (True ∧ e = e ∧ sentL = sentL ∧ (0 : Int) = (↑(0 : Nat) : Int)) (IT (noneQ (senP e) (16 : Nat)) ((-1 : Int) = senN e) (senN e = senN e))) := by kernel_rfl
set_option maxHeartbeats 4000000 in
theorem csentinel : Con ea has (G7 ++ (G9 ++ rest)) 37 ksentinel := by
 refine plain_mkB Tryz.func37 20 (con := [(50, ksentinels), (51, kAlike)]) ⟨csentinels, cAlike, trivial⟩ (fun hA hr hv => ?_) (by kernel_rfl) (by kernel_rfl) Tryz.ntmps37
 unfold ksentinel at hr; split at hr
 ·rename_i e
  have := ret_ok hr; subst this
  refine ⟨_, [(3, Lsen e)], rfl, rfl, .of (argsentinel e) (by simp), rfl, (fun W R ρ0 own0 hown => hl1 (by kernel_rfl) (by kernel_rfl) (lsen e hown)), .of (runsentinel rest e) ?_⟩
  delta RQ IT
  clear hr
  refine ⟨⟨trivial, rfl, rfl, rfl⟩, fun _ => ⟨fun h => (sen_not h).symm, fun _ => rfl⟩⟩
 ·cases hr
def fcode : FErr → Int
 | .fine => 0
 | .bare n => senN (.bare n)
 | .placed n _ => senN (.bare n)
def kFault : List SVal → Nat → Acc ORes := fun a n => match a with | [.err e] => .ret ({ v := .agg [.int .i64 (.full (fcode e)), .bool (.sym e.isPlaced), .int .i64 (.full e.pos)] }) | _ => .fail "Fault"
theorem argFault (e : FErr) : (all (subL tAtN none' [] deep [.err e] [.err e])) = (
 e = e) := by kernel_rfl
theorem runFault (rest : List (Nat × SVal)) (e : FErr) : (Tr.sat (plainQ (.agg [.int .i64 (.full (fcode e)), .bool (.sym e.isPlaced), .int .i64 (.full e.pos)])) (run (env (G7 ++ (G9 ++ rest)) [(14, kNone), (37, ksentinel), (24, kBare), (15, kPlaced)]) [] (bodyOf Tryz.f26) (start [.err e] 38) (ends (env (G7 ++ (G9 ++ rest)) [(14, kNone), (37, ksentinel), (24, kBare), (15, kPlaced)]) Tryz.f26.results.toList))) = (
 IT (!FErr.isErr e) ((0 : Int) = fcode e ∧ false = FErr.isPlaced e ∧ (0 : Int) = FErr.pos e) (IT (!FErr.isPlaced e) (senN e = fcode e ∧ false = FErr.isPlaced e ∧ (0 : Int) = FErr.pos e) (RQ ((!!FErr.isPlaced e) = true → FErr.isPlaced e = true) (RQ ((!!FErr.isPlaced e) = true → FErr.isPlaced e = true) (IT (!FErr.isPlaced e || !FErr.isErr (FErr.inner e)) ((-1 : Int) = fcode e ∧ false = FErr.isPlaced e ∧ (0 : Int) = FErr.pos e) (RQ (FErr.isPlaced e = true) (RQ (FErr.isPlaced e = true) (RQ (FErr.isPlaced e = true) (RQ (FErr.isPlaced e = true) (senN (FErr.inner e) = fcode e ∧ (!decide (senN (FErr.inner e) = 0)) = FErr.isPlaced e ∧ (if senN (FErr.inner e) = 0 then (0 : Int) else FErr.pos e) = FErr.pos e)))))))))) := by kernel_rfl
set_option maxHeartbeats 4000000 in
theorem cFault : Con ea has (G7 ++ (G9 ++ rest)) 26 kFault := by
 refine plain_mkB Tryz.func26 38 (con := [(14, kNone), (37, ksentinel), (24, kBare), (15, kPlaced)]) ⟨cNone, csentinel, cBare, cPlaced, trivial⟩ (fun hA hr hv => ?_) (by kernel_rfl) (by kernel_rfl) Tryz.ntmps26
 unfold kFault at hr; split at hr
 ·rename_i e
  have := ret_ok hr; subst this
  refine ⟨_, [], rfl, rfl, .of (argFault e) (by simp), rfl, (fun W R ρ0 own0 hown => noSums (by kernel_rfl)), .of (runFault rest e) ?_⟩
  delta RQ IT
  clear hr
  have hz := senN_ne
  cases e with
  | fine => simp [FErr.isErr, fcode, FErr.isPlaced, FErr.pos]
  | bare n => simp [FErr.isErr, fcode, FErr.isPlaced, FErr.pos]
  | placed n p => simp [FErr.isErr, fcode, FErr.isPlaced, FErr.pos, FErr.inner, hz]
 ·cases hr
def kSeeSame : List SVal → Nat → Acc ORes := fun a n => match a with | [.err e, .agg [.int .i64 a, .bool b, .int .i64 c]] => .ret ({ v := .bool (.sym (decide (fcode e = a.val) && (e.isPlaced == b.val) && decide (e.pos = c.val))) }) | _ => .fail "SeeSame"
theorem argSeeSame (e : FErr) (a : SI) (b : SB) (c : SI) : (all (subL tAtN none' [] deep [.err e, .agg [.int .i64 a, .bool b, .int .i64 c]] [.err e, .agg [.int .i64 (.full a.val), .bool (.sym b.val), .int .i64 (.full c.val)]])) = (
 e = e ∧ SI.val a = SI.val a ∧ SB.val b = SB.val b ∧ SI.val c = SI.val c) := by kernel_rfl
theorem runSeeSame (rest : List (Nat × SVal)) (e : FErr) (a : Int) (b : Bool) (c : Int) : (Tr.sat (plainQ (.bool (.sym (decide (fcode e = a) && (e.isPlaced == b) && decide (e.pos = c))))) (run (env (G7 ++ (G9 ++ rest)) [(26, kFault), (25, kSameFault)]) [] (bodyOf Tryz.f16) (start [.err e, .agg [.int .i64 (.full a), .bool (.sym b), .int .i64 (.full c)]] 9) (ends (env (G7 ++ (G9 ++ rest)) [(26, kFault), (25, kSameFault)]) Tryz.f16.results.toList))) = (
 (decide (fcode e = a) && FErr.isPlaced e == b && decide (FErr.pos e = c)) = (decide (fcode e = a) && FErr.isPlaced e == b && decide (FErr.pos e = c))) := by kernel_rfl
set_option maxHeartbeats 4000000 in
theorem cSeeSame : Con ea has (G7 ++ (G9 ++ rest)) 16 kSeeSame := by
 refine plain_mkB Tryz.func16 9 (con := [(26, kFault), (25, kSameFault)]) ⟨cFault, cSameFault, trivial⟩ (fun hA hr hv => ?_) (by kernel_rfl) (by kernel_rfl) Tryz.ntmps16
 unfold kSeeSame at hr; split at hr
 ·rename_i e a b c
  have := ret_ok hr; subst this
  refine ⟨_, [], rfl, rfl, .of (argSeeSame e a b c) (by simp), rfl, (fun W R ρ0 own0 hown => noSums (by kernel_rfl)), .of (runSeeSame rest e a.val b.val c.val) ?_⟩
  clear hr
  rfl
 ·cases hr
def kSeeIs : List SVal → Nat → Acc ORes := fun a n => match a with | [.err e, .int .i64 c] => .ret ({ v := .bool (.sym (decide (fcode e = c.val) && (e.isPlaced == false) && decide (e.pos = 0))) }) | _ => .fail "SeeIs"
theorem argSeeIs (e : FErr) (c : SI) : (all (subL tAtN none' [] deep [.err e, .int .i64 c] [.err e, .int .i64 (.full c.val)])) = (
 e = e ∧ SI.val c = SI.val c) := by kernel_rfl
theorem runSeeIs (rest : List (Nat × SVal)) (e : FErr) (c : Int) : (Tr.sat (plainQ (.bool (.sym (decide (fcode e = c) && (e.isPlaced == false) && decide (e.pos = 0))))) (run (env (G7 ++ (G9 ++ rest)) [(24, kBare), (16, kSeeSame)]) [] (bodyOf Tryz.f12) (start [.err e, .int .i64 (.full c)] 9) (ends (env (G7 ++ (G9 ++ rest)) [(24, kBare), (16, kSeeSame)]) Tryz.f12.results.toList))) = (
 (decide (fcode e = c) && FErr.isPlaced e == false && decide (FErr.pos e = (0 : Int))) = (decide (fcode e = c) && FErr.isPlaced e == false && decide (FErr.pos e = (0 : Int)))) := by kernel_rfl
set_option maxHeartbeats 4000000 in
theorem cSeeIs : Con ea has (G7 ++ (G9 ++ rest)) 12 kSeeIs := by
 refine plain_mkB Tryz.func12 9 (con := [(24, kBare), (16, kSeeSame)]) ⟨cBare, cSeeSame, trivial⟩ (fun hA hr hv => ?_) (by kernel_rfl) (by kernel_rfl) Tryz.ntmps12
 unfold kSeeIs at hr; split at hr
 ·rename_i e c
  have := ret_ok hr; subst this
  refine ⟨_, [], rfl, rfl, .of (argSeeIs e c) (by simp), rfl, (fun W R ρ0 own0 hown => noSums (by kernel_rfl)), .of (runSeeIs rest e c.val) ?_⟩
  clear hr
  rfl
 ·cases hr
end
end Go.Proofs.YtacmmedhjebfjaaGreatDoor
set_option linter.unusedVariables false
set_option linter.unusedSimpArgs false
set_option linter.unusedSectionVars false
namespace Go.Proofs.YtacmmedhjebfjaaGreatDoor
open Go.RowKit Go.Sy Go.Fac
section
variable {ea : Ear} {has : Int → Prop} {rest : List (Nat × SVal)} [ht : Nonempty (EType ea)] [hpw : Nonempty (Pow ea)]
abbrev manF (n w : Nat) : List (Nat × SVal) := [(0, .int .i64 (.sym (n : Int) 13 17)), (1, .int .i64 (.sym (w : Int) 0 150)), (5, .bool (.lit true)), (6, .own 0)]
abbrev manI (i : Nat) : Nat × SVal := (8, .int .i64 (.sym (i : Int) 0 1000000))
def HmanB (n w ii : Nat) (i : Nat) : SState := { fr := manF n w ++ [(7, .int .i64 (.sym ((w + 1 : Nat) * (ii : Int) + (i : Int)) 0 10000)), manI ii, (9, .own 1), (10, .int .i64 (.sym i 0 1000000))], hp := [(0, some (.recs .obj (mU (w + 1) ii))), (1, some (.recs .line (manL (nmT ii) i)))], next := 2, sz := 93 }
def XmanB (n w ii : Nat) : SState := { fr := manF n w ++ [(7, .int .i64 (.sym ((w + 1 : Nat) * ((ii + 1 : Nat) : Int)) 0 10000)), manI ii, (9, .own 1)], hp := [(0, some (.recs .obj (mU (w + 1) ii))), (1, some (.recs .line (manL (nmT ii) (w + 1))))], next := 2, sz := 93 }
def LmanB (n w ii : Nat) : LSum := ⟨HmanB n w ii 0, fun k => k (.exit 2) (XmanB n w ii), Man n (w + 1) ∧ ii < n⟩
theorem bmanB (rest : List (Nat × SVal)) (n w ii : Nat) (i : Nat) : (Tr.sat (rnd1 (env (G7 ++ (G9 ++ rest)) [(5, kfirst13), (6, kNumber), (8, kNum), (7, kAt), (9, kOp), (10, kObjectRF), (11, kLinkF), (12, kSeeIs)]) (fun _ => True) (w + 1) (HmanB n w ii) 2 (XmanB n w ii) i) (run (env (G7 ++ (G9 ++ rest)) [(5, kfirst13), (6, kNumber), (8, kNum), (7, kAt), (9, kOp), (10, kObjectRF), (11, kLinkF), (12, kSeeIs)]) [] (loopN (loopN (bodyOf Tryz.f3) 0) 0) (HmanB n w ii i) .leaf)) = (
 IT (decide ((↑i : Int) ≤ (↑w : Int))) (RQ (List.length (manL (nmT ii) i) + List.length [opL (1 : Int) (nilR RT.i64)] ≤ 137438953472) (i < w + 1 ∧ True ∧ (↑n : Int) = (↑n : Int) ∧ (↑w : Int) = (↑w : Int) ∧ true = true ∧ (↑(w + 1) : Int) * (↑ii : Int) + (↑i : Int) + 1 = (↑(w + 1) : Int) * (↑ii : Int) + (↑(i + 1) : Int) ∧ (0 ≤ (↑(w + 1) : Int) * (↑ii : Int) + (↑(i + 1) : Int) ∧ (↑(w + 1) : Int) * (↑ii : Int) + (↑(i + 1) : Int) ≤ 10000) ∧ (↑ii : Int) = (↑ii : Int) ∧ (↑i : Int) + 1 = (↑(i + 1) : Int) ∧ (0 ≤ (↑(i + 1) : Int) ∧ (↑(i + 1) : Int) ≤ 1000000) ∧ mU (w + 1) ii = mU (w + 1) ii ∧ manL (nmT ii) i ++ [opL (1 : Int) (nilR RT.i64)] = manL (nmT ii) (i + 1))) (Nat.beq (2 : Nat) (2 : Nat) = true ∧ (↑n : Int) = (↑n : Int) ∧ (↑w : Int) = (↑w : Int) ∧ true = true ∧ (↑(w + 1) : Int) * (↑ii : Int) + (↑i : Int) = (↑(w + 1) : Int) * (↑(ii + 1) : Int) ∧ (↑ii : Int) = (↑ii : Int) ∧ mU (w + 1) ii = mU (w + 1) ii ∧ manL (nmT ii) i = manL (nmT ii) (w + 1))) := by kernel_rfl
set_option maxHeartbeats 4000000 in
theorem lmanB (n w ii : Nat) {W : World} {R own0 : Nat → Prop} {ρ0 : Nat → Option Value} (hown : HownOk (env (G7 ++ (G9 ++ rest)) [(5, kfirst13), (6, kNumber), (8, kNum), (7, kAt), (9, kOp), (10, kObjectRF), (11, kLinkF), (12, kSeeIs)]) own0 ρ0) : LOk Tryz.prog (env (G7 ++ (G9 ++ rest)) [(5, kfirst13), (6, kNumber), (8, kNum), (7, kAt), (9, kOp), (10, kObjectRF), (11, kLinkF), (12, kSeeIs)]) (ctx ea has) (G7 ++ (G9 ++ rest)) W R own0 ρ0 (loopN (loopN (bodyOf Tryz.f3) 0) 0) (LmanB n w ii) := by
 refine loop1_ok (J := fun _ => True) (N := w + 1) (H := HmanB n w ii) (X := XmanB n w ii) (env_ok (con := [(5, kfirst13), (6, kNumber), (8, kNum), (7, kAt), (9, kOp), (10, kObjectRF), (11, kLinkF), (12, kSeeIs)]) ⟨cfirst13, cNumber, cNum, cAt, cOp, cObjectRF, cLinkF, cSeeIs, trivial⟩) hown (ls := fun i => []) (fun i => noSums (by kernel_rfl)) (fun hm i hi hj => ?_) 0 (fun hm => by first | exact Nat.zero_le _ | omega) (fun hm => trivial)
 rw [bmanB rest n w ii i]
 delta RQ IT
 obtain ⟨D, hii⟩ := hm
 have w2 := D.w2
 have n2 := D.n2
 have hL : (manL (nmT ii) i).length = i + 1 := by unfold manL; simp
 have hM : (w + 1) * ii ≤ 151 * 17 := Nat.mul_le_mul w2 (by omega)
 have hs : ((w + 1 : Nat) : Int) * ((ii + 1 : Nat) : Int) = ((w + 1 : Nat) : Int) * (ii : Int) + ((w + 1 : Nat) : Int) := by rw [Int.natCast_succ ii, Int.mul_add, Int.mul_one]
 rw [hs]
 have hc : ((w + 1 : Nat) : Int) * (ii : Int) = (((w + 1) * ii : Nat) : Int) := by rw [Int.natCast_mul]
 rw [hc]
 generalize (w + 1) * ii = m at hM
 refine ⟨fun h => ?_, fun h => ?_⟩
 ·have h := of_decide_eq_true h
  refine ⟨by rw [hL]; show i + 1 + 1 ≤ _; omega, fun _ => ⟨by omega, trivial, rfl, rfl, rfl, by omega, ⟨by omega, by omega⟩, rfl, by omega, ⟨by omega, by omega⟩, rfl, ?_⟩⟩
  unfold manL
  rw [List.append_assoc, List.replicate_succ']; rfl
 ·have h := of_decide_eq_false h
  have : i = w + 1 := by omega
  subst this
  exact ⟨rfl, rfl, rfl, rfl, rfl, rfl, rfl, rfl⟩
def HmanA (n w : Nat) (i : Nat) : SState := { fr := manF n w ++ [(7, .int .i64 (.sym ((w + 1 : Nat) * (i : Int)) 0 10000)), (8, .int .i64 (.sym i 0 1000000))], hp := [(0, some (.recs .obj (mU (w + 1) i)))], next := 1, sz := 93 }
def XmanA (n w : Nat) : SState := { fr := manF n w ++ [(7, .int .i64 (.sym ((w + 1 : Nat) * (n : Int)) 0 10000))], hp := [(0, some (.recs .obj (mU (w + 1) n)))], next := 1, sz := 93 }
def LmanA (n w : Nat) : LSum := ⟨HmanA n w 0, fun k => k (.exit 0) (XmanA n w), Man n (w + 1)⟩
theorem bmanA (rest : List (Nat × SVal)) (n w : Nat) (i : Nat) : (Tr.sat (rnd1 (env (G7 ++ (G9 ++ rest)) [(5, kfirst13), (6, kNumber), (8, kNum), (7, kAt), (9, kOp), (10, kObjectRF), (11, kLinkF), (12, kSeeIs)]) (fun _ => True) (n) (HmanA n w) 0 (XmanA n w) i) (run (env (G7 ++ (G9 ++ rest)) [(5, kfirst13), (6, kNumber), (8, kNum), (7, kAt), (9, kOp), (10, kObjectRF), (11, kLinkF), (12, kSeeIs)]) [(15, LmanB n w i), (2000014, cutL { fr := manF n w ++ [(7, .int .i64 (.sym ((w + 1 : Nat) * (i : Int)) 0 10000)), manI i, (9, .own 1)], hp := [(0, some (.recs .obj (mU (w + 1) i))), (1, some (.recs .line (manL (nmT i) 0)))], next := 2, sz := 93 })] (loopN (bodyOf Tryz.f3) 0) (HmanA n w i) .leaf)) = (
 IT (decide ((↑i : Int) < (↑n : Int))) (RQ (ByteArray.size (ByteArray.mk #[(102 : UInt8)]) + ByteArray.size (itoaB (↑i : Int)) ≤ 9223372036854775807) ((IT (decide ((↑i : Int) = 0)) ((↑n : Int) = (↑n : Int) ∧ (↑w : Int) = (↑w : Int) ∧ true = true ∧ (↑(w + 1) : Int) * (↑i : Int) = (↑(w + 1) : Int) * (↑i : Int) ∧ (↑i : Int) = (↑i : Int) ∧ mU (w + 1) i = mU (w + 1) i ∧ [Ln.mk (In5.mk (0 : Int) (0 : Int) (0 : Int) (0 : Int) (0 : Int)) (ByteArray.mk #[(109 : UInt8), (97 : UInt8), (105 : UInt8), (110 : UInt8)]) ByteArray.empty false] = manL (nmT i) (0 : Nat)) ((↑n : Int) = (↑n : Int) ∧ (↑w : Int) = (↑w : Int) ∧ true = true ∧ (↑(w + 1) : Int) * (↑i : Int) = (↑(w + 1) : Int) * (↑i : Int) ∧ (↑i : Int) = (↑i : Int) ∧ mU (w + 1) i = mU (w + 1) i ∧ [Ln.mk (In5.mk (0 : Int) (0 : Int) (0 : Int) (0 : Int) (0 : Int)) (ByteArray.mk #[(102 : UInt8)] ++ itoaB (↑i : Int)) ByteArray.empty false] = manL (nmT i) (0 : Nat))) ∧ RQ ((Man n (w + 1) ∧ i < n) ∧ (↑n : Int) = (↑n : Int) ∧ (↑w : Int) = (↑w : Int) ∧ true = true ∧ (↑(w + 1) : Int) * (↑i : Int) = (↑(w + 1) : Int) * (↑i : Int) + (↑(0 : Nat) : Int) ∧ (↑i : Int) = (↑i : Int) ∧ (0 : Int) = (↑(0 : Nat) : Int) ∧ mU (w + 1) i = mU (w + 1) i ∧ manL (nmT i) (0 : Nat) = manL (nmT i) (0 : Nat)) (RQ (List.length (manL (nmT i) (w + 1)) ≤ 100000 ∧ shortN (@List.nil (RT.ty RT.u32))) (RQ (List.length (mU (w + 1) i) + List.length [Ob.mk (@List.nil (RT.ty RT.u32)) (oAll (manL (nmT i) (w + 1))).code (oAll (manL (nmT i) (w + 1))).map (nilR RT.rel) (oAll (manL (nmT i) (w + 1))).cr (oAll (manL (nmT i) (w + 1))).sy] ≤ 137438953472) (i < n ∧ True ∧ (↑n : Int) = (↑n : Int) ∧ (↑w : Int) = (↑w : Int) ∧ true = true ∧ (↑(w + 1) : Int) * (↑(i + 1) : Int) = (↑(w + 1) : Int) * (↑(i + 1) : Int) ∧ (↑i : Int) + 1 = (↑(i + 1) : Int) ∧ (0 ≤ (↑(i + 1) : Int) ∧ (↑(i + 1) : Int) ≤ 1000000) ∧ mU (w + 1) i ++ [Ob.mk (@List.nil (RT.ty RT.u32)) (oAll (manL (nmT i) (w + 1))).code (oAll (manL (nmT i) (w + 1))).map (nilR RT.rel) (oAll (manL (nmT i) (w + 1))).cr (oAll (manL (nmT i) (w + 1))).sy] = mU (w + 1) (i + 1)))))) (Nat.beq (0 : Nat) (0 : Nat) = true ∧ (↑n : Int) = (↑n : Int) ∧ (↑w : Int) = (↑w : Int) ∧ true = true ∧ (↑(w + 1) : Int) * (↑i : Int) = (↑(w + 1) : Int) * (↑n : Int) ∧ mU (w + 1) i = mU (w + 1) n)) := by kernel_rfl
set_option maxHeartbeats 4000000 in
theorem lmanA (n w : Nat) {W : World} {R own0 : Nat → Prop} {ρ0 : Nat → Option Value} (hown : HownOk (env (G7 ++ (G9 ++ rest)) [(5, kfirst13), (6, kNumber), (8, kNum), (7, kAt), (9, kOp), (10, kObjectRF), (11, kLinkF), (12, kSeeIs)]) own0 ρ0) : LOk Tryz.prog (env (G7 ++ (G9 ++ rest)) [(5, kfirst13), (6, kNumber), (8, kNum), (7, kAt), (9, kOp), (10, kObjectRF), (11, kLinkF), (12, kSeeIs)]) (ctx ea has) (G7 ++ (G9 ++ rest)) W R own0 ρ0 (loopN (bodyOf Tryz.f3) 0) (LmanA n w) := by
 refine loop1_ok (J := fun _ => True) (N := n) (H := HmanA n w) (X := XmanA n w) (env_ok (con := [(5, kfirst13), (6, kNumber), (8, kNum), (7, kAt), (9, kOp), (10, kObjectRF), (11, kLinkF), (12, kSeeIs)]) ⟨cfirst13, cNumber, cNum, cAt, cOp, cObjectRF, cLinkF, cSeeIs, trivial⟩) hown (ls := fun i => [(15, LmanB n w i), (2000014, cutL { fr := manF n w ++ [(7, .int .i64 (.sym ((w + 1 : Nat) * (i : Int)) 0 10000)), manI i, (9, .own 1)], hp := [(0, some (.recs .obj (mU (w + 1) i))), (1, some (.recs .line (manL (nmT i) 0)))], next := 2, sz := 93 })]) (fun i => hl1 (by kernel_rfl) (by kernel_rfl) (lmanB n w i hown)) (fun hm i hi hj => ?_) 0 (fun hm => by first | exact Nat.zero_le _ | omega) (fun hm => trivial)
 rw [bmanA rest n w i]
 delta RQ IT
 have D := hm
 have w2 := D.w2
 have n2 := D.n2
 have hL : (manL (nmT i) (w + 1)).length = w + 2 := by unfold manL; simp
 refine ⟨fun h => ?_, fun h => ?_⟩
 ·have h := of_decide_eq_true h
  have hlt : i < n := by omega
  have sz : (⟨#[102]⟩ : ByteArray).size + (itoaB (i : Int)).size ≤ 9223372036854775807 := by
   have := itoaB_size (i : Int)
   have e : (⟨#[102]⟩ : ByteArray).size = 1 := rfl
   omega
  have em : (⟨[], (oAll (manL (nmT i) (w + 1))).code, (oAll (manL (nmT i) (w + 1))).map, nilR RT.rel, (oAll (manL (nmT i) (w + 1))).cr, (oAll (manL (nmT i) (w + 1))).sy⟩ : Ob) = manO (nmT i) (w + 1) := man_mk (nm_ne (by omega)) _
  rw [em, mU_len, hL]
  have ez : ((w + 1 : Nat) : Int) * (i : Int) = ((w + 1 : Nat) : Int) * (i : Int) + ((0 : Nat) : Int) := by omega
  refine ⟨sz, fun _ => ⟨⟨fun g => ?_, fun g => ?_⟩, ⟨⟨D, hlt⟩, rfl, rfl, rfl, ez, rfl, rfl, rfl, rfl⟩, fun _ => ⟨⟨by omega, Nat.zero_le _⟩, fun _ => ⟨by show i + 1 ≤ _; omega, fun _ => ⟨hlt, trivial, rfl, rfl, rfl, rfl, by omega, ⟨by omega, by omega⟩, (mU_succ (w + 1) i).symm⟩⟩⟩⟩⟩
  ·have g := of_decide_eq_true g
   have e : nmT i = mainT := by unfold nmT; rw [if_pos (by omega)]
   rw [e]
   exact ⟨rfl, rfl, rfl, rfl, rfl, rfl, rfl⟩
  ·have g := of_decide_eq_false g
   have e : nmT i = fT i := by unfold nmT; rw [if_neg (by omega)]
   rw [e]
   exact ⟨rfl, rfl, rfl, rfl, rfl, rfl, rfl⟩
 ·have h := of_decide_eq_false h
  have : i = n := by omega
  subst this
  exact ⟨rfl, rfl, rfl, rfl, rfl, rfl⟩
def mN (x : Int) : Nat := (x % 5 + 13).toNat
def mW (x : Int) : Nat := (x % 4 * 50).toNat
def kLinkMany : List SVal → Nat → Acc ORes := fun a n => match a with | [.int .i64 n', .int .i64 w'] => .ret ({ v := .bool (.lit true) }) | _ => .fail "LinkMany"
theorem argLinkMany (n' w' : SI) : (all (subL tAtN none' [] deep [.int .i64 n', .int .i64 w'] [.int .i64 (.full n'.val), .int .i64 (.full w'.val)])) = (
 SI.val n' = SI.val n' ∧ SI.val w' = SI.val w') := by kernel_rfl
theorem runLinkMany (rest : List (Nat × SVal)) (n' : Int) (w' : Int) : (Tr.sat (plainQ (.bool (.lit true))) (run (env (G7 ++ (G9 ++ rest)) [(5, kfirst13), (6, kNumber), (8, kNum), (7, kAt), (9, kOp), (10, kObjectRF), (11, kLinkF), (12, kSeeIs)]) [(9, LmanA (mN n') (mW w'))] (bodyOf Tryz.f3) (start [.int .i64 (.full n'), .int .i64 (.full w')] 93) (ends (env (G7 ++ (G9 ++ rest)) [(5, kfirst13), (6, kNumber), (8, kNum), (7, kAt), (9, kOp), (10, kObjectRF), (11, kLinkF), (12, kSeeIs)]) Tryz.f3.results.toList))) = (
 RQ ((0 : Int) < (5 : Int)) (RQ ((0 : Int) < (4 : Int)) (RQ (Man (mN n') (mW w' + 1) ∧ IntKind.wrap IntKind.i64 (n' % 5 + (13 : Int)) = (↑(mN n') : Int) ∧ ((13 : Int) ≤ (↑(mN n') : Int) ∧ (↑(mN n') : Int) ≤ 17) ∧ IntKind.wrap IntKind.i64 (w' % 4 * (50 : Int)) = (↑(mW w') : Int) ∧ (0 ≤ (↑(mW w') : Int) ∧ (↑(mW w') : Int) ≤ 150) ∧ true = true ∧ (0 : Int) = (↑(mW w' + 1) : Int) * (↑(0 : Nat) : Int) ∧ (0 : Int) = (↑(0 : Nat) : Int) ∧ @List.nil (RT.ty RT.obj) = mU (mW w' + 1) (0 : Nat)) (IT (decide ((16 : Int) < (↑(mN n') : Int)) || decide ((2048 : Int) < (↑(mW w' + 1) : Int) * (↑(mN n') : Int))) ((decide (fcode (laidE (mU (mW w' + 1) (mN n'))) = 104) && FErr.isPlaced (laidE (mU (mW w' + 1) (mN n'))) == false && decide (FErr.pos (laidE (mU (mW w' + 1) (mN n'))) = 0) && decide ((↑(List.length (linkI (mU (mW w' + 1) (mN n'))).code) : Int) = 0)) = true) ((!FErr.isErr (laidE (mU (mW w' + 1) (mN n'))) && decide ((↑(List.length (linkI (mU (mW w' + 1) (mN n'))).code) : Int) = (↑(mW w' + 1) : Int) * (↑(mN n') : Int)) && decide ((↑(List.length (linkI (mU (mW w' + 1) (mN n'))).starts) : Int) = (↑(mW w' + 1) : Int) * (↑(mN n') : Int))) = true))))) := by kernel_rfl
set_option maxHeartbeats 4000000 in
theorem cLinkMany : Con ea has (G7 ++ (G9 ++ rest)) 3 kLinkMany := by
 refine plain_mkB Tryz.func3 93 (con := [(5, kfirst13), (6, kNumber), (8, kNum), (7, kAt), (9, kOp), (10, kObjectRF), (11, kLinkF), (12, kSeeIs)]) ⟨cfirst13, cNumber, cNum, cAt, cOp, cObjectRF, cLinkF, cSeeIs, trivial⟩ (fun hA hr hv => ?_) (by kernel_rfl) (by kernel_rfl) Tryz.ntmps3
 unfold kLinkMany at hr; split at hr
 ·rename_i n' w'
  have := ret_ok hr; subst this
  refine ⟨_, [(9, LmanA (mN n'.val) (mW w'.val))], rfl, rfl, .of (argLinkMany n' w') (by simp), rfl, (fun W R ρ0 own0 hown => hl1 (by kernel_rfl) (by kernel_rfl) (lmanA (mN n'.val) (mW w'.val) hown)), .of (runLinkMany rest n'.val w'.val) ?_⟩
  delta RQ IT
  clear hr
  have hN : n'.val % 5 + 13 = ((mN n'.val : Nat) : Int) ∧ 13 ≤ mN n'.val ∧ mN n'.val ≤ 17 := by unfold mN; omega
  have hW : w'.val % 4 * 50 = ((mW w'.val : Nat) : Int) ∧ mW w'.val ≤ 150 := by unfold mW; omega
  have w1 : IntKind.i64.wrap (n'.val % 5 + 13) = ((mN n'.val : Nat) : Int) := by rw [hN.1, IntKind.wrap_i64]; omega
  have w2 : IntKind.i64.wrap (w'.val % 4 * 50) = ((mW w'.val : Nat) : Int) := by rw [hW.1, IntKind.wrap_i64]; omega
  rw [w1, w2]
  have D : Man (mN n'.val) (mW w'.val + 1) := ⟨by omega, by omega, by omega, by omega⟩
  generalize mN n'.val = n at *
  generalize mW w'.val = w at *
  obtain ⟨_, h13, h17⟩ := hN
  obtain ⟨_, h150⟩ := hW
  obtain ⟨m1, m2⟩ := mu_link D
  have hc : ((w + 1 : Nat) : Int) * (n : Int) = (((w + 1) * n : Nat) : Int) := by rw [Int.natCast_mul]
  have hz : (0 : Int) = ((w + 1 : Nat) : Int) * ((0 : Nat) : Int) := by omega
  rw [hc]
  refine ⟨by omega, fun _ => ⟨by omega, fun _ => ⟨⟨D, rfl, ⟨by omega, by omega⟩, rfl, ⟨by omega, by omega⟩, rfl, hz, rfl, rfl⟩, fun _ => ⟨fun g => ?_, fun g => ?_⟩⟩⟩⟩
  ·rw [Bool.or_eq_true, decide_eq_true_eq, decide_eq_true_eq] at g
   obtain ⟨e1, e2⟩ := m1 (by omega)
   rw [e1, e2]; rfl
  ·rw [Bool.or_eq_false_iff, decide_eq_false_iff_not, decide_eq_false_iff_not] at g
   obtain ⟨e1, e2, e3⟩ := m2 (by omega)
   rw [e1, e2, e3, decide_eq_true rfl]; rfl
 ·cases hr
end
end Go.Proofs.YtacmmedhjebfjaaGreatDoor
set_option linter.unusedVariables false
set_option linter.unusedSimpArgs false
set_option maxRecDepth 100000
namespace Go.Proofs.YtacmmedhjebfjaaGreatDoor
open Go.ChangeShapes Go.RowKit Go.Sy
theorem own : ownKnob Tryz.prog.godebug = none := by kernel_rfl
theorem laidOut : laidOutB Tryz.prog = true := by kernel_rfl
section
variable {W : World} {H : Type} {enc : TypeId × Value → H} {C : Ctx} {R : Nat → Prop} {ρ : Nat → Option Value} {base : Nat} {sp : Nat → Bool} {held : Bool} {r : Reach} {b0 : Nat}
theorem open_num {v : Value} {d : DataW H} {ps : List MemPlace} (hv : Value.okWide Tryz.prog W r b0 3 v) (h : DataW.Trod enc Tryz.prog W base sp held 3 v d ps) :
  ∃ n : Int, v = .int .i64 n ∧ InI .i64 (.full n) := by
 obtain ⟨n, rfl, _, _, hw⟩ := open_int Tryz.underlying3 hv h
 exact ⟨n, rfl, wf_in hw⟩
end
def txt : DataW Unit → List UInt8
 | .iface _ (.ptr (.agg [.lit (.string s)])) => s
 | _ => []
def L16 : List Snt := [⟨"facade/api.ErrEnd", 5, 101, txt Rows.laid_facade_api_ErrEnd⟩, ⟨"facade/api.ErrShape", 3, 102, txt Rows.laid_facade_api_ErrShape⟩, ⟨"facade/api.ErrRange", 6, 103, txt Rows.laid_facade_api_ErrRange⟩, ⟨"facade/api.ErrMany", 0, 104, txt Rows.laid_facade_api_ErrMany⟩,
 ⟨"facade/api.ErrOp", 7, 105, txt Rows.laid_facade_api_ErrOp⟩, ⟨"facade/api.ErrTwice", 1, 106, txt Rows.laid_facade_api_ErrTwice⟩, ⟨"facade/api.ErrNone", 2, 107, txt Rows.laid_facade_api_ErrNone⟩, ⟨"facade/api.ErrFar", 8, 108, txt Rows.laid_facade_api_ErrFar⟩,
 ⟨"facade/api.ErrMap", 4, 109, txt Rows.laid_facade_api_ErrMap⟩, ⟨"facade/api.ErrOwner", 9, 110, txt Rows.laid_facade_api_ErrOwner⟩, ⟨"facade/api.ErrType", 10, 111, txt Rows.laid_facade_api_ErrType⟩, ⟨"facade/api.ErrBusy", 11, 112, txt Rows.laid_facade_api_ErrBusy⟩,
 ⟨"facade/api.ErrFull", 12, 113, txt Rows.laid_facade_api_ErrFull⟩, ⟨"facade/api.ErrState", 13, 114, txt Rows.laid_facade_api_ErrState⟩, ⟨"facade/api.ErrWord", 14, 115, txt Rows.laid_facade_api_ErrWord⟩, ⟨"facade/api.ErrNumber", 15, 116, txt Rows.laid_facade_api_ErrNumber⟩]
abbrev nmE : String := "*errors.errorString"
theorem star : "*" ++ "errors.errorString" = nmE := by decide
theorem err_types : ErrTypes Tryz.prog 45 178 199 9 nmE where
 hi := ⟨_, Tryz.underlying45⟩
 row := fun u h => typeName_ptr_named (nm := "errors.errorString") (by rw [star]; kernel_rfl) (by kernel_rfl) (by decide) u (by rw [star]; exact h)
 hp := Tryz.underlying178
 he := ⟨_, Tryz.underlying199, rfl, rfl⟩
 hs := Tryz.underlying9
 ce := by kernel_rfl
 cs := by kernel_rfl
theorem named_of {L : List Snt} (h : (L.all fun x => Tryz.prog.globalNamed x.name == some x.g && (Tryz.prog.globals[x.g]?).map (·.type) == some 45) = true) : ∀ x ∈ L, Tryz.prog.globalNamed x.name = some x.g ∧ (Tryz.prog.globals[x.g]?).map (·.type) = some 45 := fun x hx => by
 have := List.all_eq_true.1 h x hx
 simpa using this
end Go.Proofs.YtacmmedhjebfjaaGreatDoor
