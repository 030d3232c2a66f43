/- Contracts that the proofs use. -/
import Derived.Test.YtacmmedhjebfjaaDoorQLinkData7
import Derived.Lib.ItoaLen
import Derived.Test.YtacmmedhjebfjaaDoorRows
set_option linter.unusedVariables false
set_option linter.unusedSimpArgs false
set_option linter.unusedSectionVars false
namespace Go.Proofs.YtacmmedhjebfjaaDoor
open Go.RowKit Go.Sy Go.Fac
structure Pow (ea : Ear) : Prop where
 pow : ∃ T s, ea.fix 8 = some (.cells (Lib.pow10Tab.map fun z => Value.int .u64 z).toArray T s)
theorem Trans.grown {C : Ctx} {gl : List (Nat × SVal)} {W : World} {R : Nat → Prop} {ρ : Nat → Option Value} {h : Nat → Option Cont} (M : Mem C gl W R ρ h) {k : Nat} {os : Array Obj} :
  Trans C gl W R ρ h [] (Sort.grow (W.drewN k) os) R ρ :=
 Trans.gen M rfl rfl rfl (by simp [Sort.grow, World.drewN]) (fun _ _ h => h) (fun _ _ h => .inl h)
  (fun j hj _ => by show (W.heap ++ os)[j]? = W.heap[j]?; exact Array.getElem?_append_left hj)
  (fun _ r c hf => by cases hf) (fun r r' c c' hf => by cases hf)
section
variable {ea : Ear} {has : Int → Prop} {gl : List (Nat × SVal)} [hpw : Nonempty (Pow ea)]
def itoaB (n : Int) : ByteArray := if -9223372036854775808 ≤ n ∧ n ≤ 9223372036854775807 then ⟨(Lib.itoa n).toArray⟩ else ByteArray.empty
theorem itoaB_of {n : Int} (h0 : -9223372036854775808 ≤ n) (h1 : n ≤ 9223372036854775807) : itoaB n = ⟨(Lib.itoa n).toArray⟩ := if_pos ⟨h0, h1⟩
theorem itoaB_size (n : Int) : (itoaB n).size ≤ 21 := by
 unfold itoaB; split
 ·rename_i h; exact Lib.itoa_length_le _ h.1 h.2
 ·decide
def kItoa : List SVal → Nat → Acc ORes := fun a n => match a with | [.int .i64 x] => .ret { v := .str (itoaB x.val) } | _ => .fail "Itoa"
theorem cItoa : Con ea has gl 37 kItoa where
 call := enters Tryd.func37 (c := bodyOf Tryd.f37) (by kernel_rfl) (by kernel_rfl)
 does {W R ρ h args vs next r l l'} M hA hr hv hn := by
  unfold kItoa at hr; split at hr
  ·rename_i x
   have := ret_ok hr; subst this
   have hi := DenA.i0 hA
   obtain ⟨⟨T, s, hf⟩⟩ := hpw
   have tab : Lib.TabIs Tryd.prog W "internal/strconv.uint64pow10" .u64 Lib.pow10Tab := by
    unfold Lib.TabIs World.var?
    rw [show Tryd.prog.globalNamed "internal/strconv.uint64pow10" = some 8 from by kernel_rfl, Option.bind_some, (M.base.fix _ _ hf).2]
   cases hA with | cons _ v _ us h1 h2 => ?_
   cases h2
   obtain ⟨rfl, _⟩ := h1.int_inv
   exact (Tryd.strconv_Itoa x.val hi.lo hi.hi W tab).mono fun e w' ⟨he, k, os, hw⟩ => ⟨_, R, ρ, he, hw ▸ Trans.grown M, itoaB_of hi.lo hi.hi ▸ .str _ (Nat.le_trans (itoaB_size _) (by decide))⟩
  ·cases hr
def kNum : List SVal → Nat → Acc ORes := fun a n => match a with | [.int .i64 n] => .ret ({ v := .str (itoaB n.val) }) | _ => .fail "Num"
theorem argNum (n : SI) : (all (subL tAtN none' [] deep [.int .i64 n] [.int .i64 (.full n.val)])) = (
 SI.val n = SI.val n) := by kernel_rfl
theorem runNum (gl : List (Nat × SVal)) (n : Int) : (Tr.sat (plainQ (.str (itoaB n))) (run (env gl [(37, kItoa)]) [] (bodyOf Tryd.f25) (start [.int .i64 (.full n)] 5) (ends (env gl [(37, kItoa)]) Tryd.f25.results.toList))) = (
 itoaB n = itoaB n) := by kernel_rfl
set_option maxHeartbeats 4000000 in
theorem cNum : Con ea has gl 25 kNum := by
 refine plain_mkB Tryd.func25 5 (con := [(37, kItoa)]) ⟨cItoa, trivial⟩ (fun hA hr hv => ?_) (by kernel_rfl) (by kernel_rfl) Tryd.ntmps25
 unfold kNum at hr; split at hr
 ·rename_i n
  have := ret_ok hr; subst this
  refine ⟨_, [], rfl, rfl, .of (argNum n) (by simp), rfl, (fun W R ρ0 own0 hown => noSums (by kernel_rfl)), .of (runNum gl n.val) ?_⟩
  clear hr
  rfl
 ·cases hr
end
end Go.Proofs.YtacmmedhjebfjaaDoor
set_option linter.unusedVariables false
set_option linter.unusedSimpArgs false
namespace Go.Proofs.YtacmmedhjebfjaaDoor
open Go.RowKit Go.Sy Go.Fac
theorem firstE_none {f : Nat → FErr} : ∀ {n : Nat}, (∀ i, i < n → (f i).isErr = false) → firstE f n = .fine
 | 0, _ => rfl
 | n + 1, h => firstE_fine (firstE_none fun i hi => h i (by omega)) (h n (by omega))
theorem vBE_ok {o : Ob} (h1 : o.code.length ≤ 2048) (h2 : o.map.length = o.code.length) (h3 : o.data.length ≤ 2048) (h4 : o.drels.length ≤ 1024) (h5 : o.crels.length ≤ 1024) (h6 : o.syms.length ≤ 256)
  (h7 : ∀ i, i < o.code.length → (wordBE o.code o.map i).isErr = false) (h8 : ∀ i, i < o.syms.length → (syE o.data o.code o.map o.syms i).isErr = false)
  (h9 : ∀ i, i < o.drels.length → (drE o.data o.drels o.syms i).isErr = false) (h10 : ∀ i, i < o.crels.length → (crE o.code o.map o.crels o.syms i).isErr = false) (h11 : ∀ i, i < o.code.length → (needE o.code o.map o.crels i).isErr = false) : vBE o = .fine := by
 have e1 : manyB o.data o.code o.drels o.crels o.syms = false := by
  unfold manyB
  simp only [Bool.or_eq_false_iff, decide_eq_false_iff_not]; omega
 have e3 : firstE (wdBE o.code o.map) o.code.length = .fine := firstE_none h7
 have e4 := firstE_none h8
 have e5 := firstE_none h9
 have e6 := firstE_none h10
 have e7 := firstE_none h11
 unfold vBE validBE relocsE
 rw [if_neg (by rw [e1]; simp), if_neg (by simp; omega), e3, e4, e5, e6, e7]
 simp [FErr.isErr]
def Uniq (l : List Ob) : Prop := ∀ o s o' s' : Nat, o < l.length → o' < l.length → s < (obN l o).syms.length → s' < (obN l o').syms.length → expS (syO l o s) → expS (syO l o' s') → (syO l o s).name = (syO l o' s').name → o = o' ∧ s = s'
theorem nmS_ok {l : List Ob} (U : Uniq l) {i : Nat} (hi : i < l.length) {g : Glb} (h0 : NmI l i 0 g) : ∀ j, j ≤ (obN l i).syms.length → (nmS i (obN l i).syms g j).1 = .fine
 | 0, _ => rfl
 | j + 1, hj => by
  have ih := nmS_ok U hi h0 j (by omega)
  have I := nmS_inv h0 j (by omega) ih
  rw [nmS, if_neg (by rw [ih]; simp [FErr.isErr])]
  show (nmStep i j (syO l i j) _).1 = .fine
  unfold nmStep
  by_cases hx : expB (syO l i j) = false
  ·rw [if_pos hx]
  ·rw [if_neg hx]
   have hx : expS (syO l i j) := expB_iff.1 (by simpa using hx)
   by_cases hh : glH (nmS i (obN l i).syms g j).2 (syO l i j).name = true
   ·obtain ⟨o, s, _, h2, h3, h4, h5⟩ := I.fnd _ hh
    obtain ⟨rfl, rfl⟩ := U o s i j (by omega) hi h3 (by omega) h5 hx h4
    omega
   ·rw [if_neg hh]
theorem nmO_ok {l : List Ob} (U : Uniq l) (hv : ∀ i, i < l.length → vBE (obN l i) = .fine) : ∀ i, i ≤ l.length → (nmO l i).1 = .fine
 | 0, _ => rfl
 | i + 1, h => by
  have ih := nmO_ok U hv i (by omega)
  rw [nmO, if_neg (by rw [ih]; simp [FErr.isErr]), if_neg (by rw [hv i (by omega)]; simp [FErr.isErr])]
  exact nmS_ok U (by omega) (nmO_inv l i ih).1 _ (Nat.le_refl _)
theorem glG_at {l : List Ob} (hf : (nmO l l.length).1 = .fine) {o s : Nat} (ho : o < l.length) (hs : s < (obN l o).syms.length) (hx : expS (syO l o s)) : glH (nmG l) (syO l o s).name = true ∧ glG (nmG l) (syO l o s).name = ((o : Int), (s : Int)) :=
 (nmO_inv l _ hf).1.all o s (.inl ho) hs hx
theorem real_self {l : List Ob} {g : Glb} {i s : Nat} (h : (syO l i s).in_ ≠ 3) : realM l g i s = ((i : Int), (s : Int)) := by
 unfold realM
 rw [symAt_nat, if_neg h]
theorem plS_two {l : List Ob} {g : Glb} (G : NmG l g) : ∀ n, n ≤ oBs l l.length → plN l g n ≤ 2 * n
 | 0, _ => Int.le_refl _
 | n + 1, h => by
  have ih := plS_two G n (by omega)
  have hc := itF_size l g (show n < oBs l l.length by omega)
  show plS (itF l g) (loF l g) (n + 1) ≤ _
  have ih : plS (itF l g) (loF l g) n ≤ 2 * n := ih
  rw [plS]
  split
  ·rename_i hlo
   obtain ⟨o, w, I⟩ := itAt (l := l) (show n < oBs l l.length by omega)
   have := I.one G (lo_br hlo)
   omega
  ·omega
theorem sumS_two (l : List Ob) (g : Glb) : sumS (itF l g) (itF l g).length ≤ 2 * (oBs l l.length : Nat) := by
 have h := sumS_le l g (itF l g).length (by rw [brO_len]; exact Nat.le_refl _)
 have e : (itF l g).length = oBs l l.length := brO_len l g _
 rw [e] at h ⊢; exact h.2
structure Lks (l : List Ob) : Prop where
 few : l.length ≤ 16
 val : ∀ i, i < l.length → vBE (obN l i) = .fine
 uniq : Uniq l
 abs : ∀ i s, i < l.length → s < (obN l i).syms.length → (syO l i s).in_ = 3 → ∃ o t, o < l.length ∧ t < (obN l o).syms.length ∧ expS (syO l o t) ∧ (syO l o t).name = (syO l i s).name
 jump : ∀ i j, i < l.length → j < (obN l i).crels.length → jumpsB (obN l i).code (obN l i).map (relN l i j).at_ (relN l i j).kind = true →
  ∃ o t, o < l.length ∧ t < (obN l o).syms.length ∧ (syO l o t).in_ ≠ 1 ∧ realM l (nmG l) i (relN l i j).sym = (((o : Nat) : Int), ((t : Nat) : Int))
 main : ∃ o t, o < l.length ∧ t < (obN l o).syms.length ∧ expS (syO l o t) ∧ (syO l o t).name = mainT ∧ (syO l o t).in_ = 2
theorem Lks.names {l : List Ob} (L : Lks l) : namesE l = .fine ∧ (nmO l l.length).1 = .fine ∧ NmG l (nmG l) := by
 have hf := nmO_ok L.uniq L.val l.length (Nat.le_refl _)
 have h2 : idxM (noneO l (nmG l)) l.length = l.length := idxM_none fun i hi => by
  unfold noneO
  rw [decide_eq_false_iff_not, Decidable.not_not]
  refine idxM_none fun s hs => ?_
  unfold noneB
  by_cases h3 : (syO l i s).in_ = 3
  ·obtain ⟨o, t, h4, h5, h6, h7⟩ := L.abs i s hi hs h3
   have := (glG_at hf h4 h5 h6).1
   rw [h7] at this
   rw [this]; simp
  ·rw [decide_eq_false h3]; rfl
 have h3 : idxM (toO l (nmG l)) l.length = l.length := idxM_none fun i hi => by
  unfold toO
  rw [decide_eq_false_iff_not, Decidable.not_not]
  refine idxM_none fun j hj => ?_
  unfold toB
  by_cases hJ : jumpsB (obN l i).code (obN l i).map (relN l i j).at_ (relN l i j).kind = true
  ·obtain ⟨o, t, _, _, h5, h6⟩ := L.jump i j hi hj hJ
   rw [hJ, h6]
   simp only [symAt_nat]
   rw [decide_eq_false h5]; rfl
  ·rw [show jumpsB (obN l i).code (obN l i).map (relN l i j).at_ (relN l i j).kind = false by simpa using hJ]; rfl
 have h4 : noMain l (nmG l) = false := by
  obtain ⟨o, t, m1, m2, m3, m4, m5⟩ := L.main
  obtain ⟨g1, g2⟩ := glG_at hf m1 m2 m3
  rw [m4] at g1 g2
  unfold noMain
  rw [g1, g2]
  simp only [symAt_nat, m5]; rfl
 refine ⟨?_, hf, nmG_ok L.few hf h2⟩
 unfold namesE
 rw [if_neg (by rw [hf]; simp [FErr.isErr]), if_neg (by rw [h2]; simp), if_neg (by rw [h3]; simp), if_neg (by rw [h4]; simp)]
theorem Lks.ok {l : List Ob} (L : Lks l) (hd : oDn l l.length ≤ 2048) (hw : oBs l l.length ≤ 1024) : laidE l = .fine := by
 obtain ⟨h1, _, G⟩ := L.names
 have hs := sumS_two l (nmG l)
 have e : (itF l (nmG l)).length = oBs l l.length := brO_len l (nmG l) _
 have hp := plS_two G (oBs l l.length) (Nat.le_refl _)
 have hm : manyL l (nmG l) = false := by
  unfold manyL
  rw [Bool.or_eq_false_iff, decide_eq_false_iff_not, decide_eq_false_iff_not]; omega
 have hp' : plS (itF l (nmG l)) (rlx (itF l (nmG l))) (itF l (nmG l)).length ≤ 2048 := by
  rw [e]; exact Int.le_trans hp (by omega)
 unfold laidE layE
 rw [if_neg (by have := L.few; omega), h1, if_neg (by simp [FErr.isErr]), if_neg (by rw [hm]; simp), if_neg (by omega)]
theorem linkI_ok {l : List Ob} (h : laidE l = .fine) : linkI l = imgM l (nmG l) := by
 unfold linkI; rw [h]; rfl
theorem oSt_fold (ls : List Ln) : ∀ i, i ≤ ls.length → oSt ls i = (ls.take i).foldl (fun s x => oStep x s) ⟨[], [], [], []⟩
 | 0, _ => rfl
 | i + 1, h => by
  rw [oSt, oSt_fold ls i (by omega), take_get1 ls RT.line.dflt (show i < ls.length by omega), List.foldl_append]; rfl
theorem oAll_fold (ls : List Ln) : oAll ls = ls.foldl (fun s x => oStep x s) ⟨[], [], [], []⟩ := by
 rw [oAll, oSt_fold ls _ (Nat.le_refl _), List.take_length]
end Go.Proofs.YtacmmedhjebfjaaDoor
set_option linter.unusedVariables false
set_option linter.unusedSimpArgs false
namespace Go.Proofs.YtacmmedhjebfjaaDoor
open Go.RowKit Go.Sy Go.Fac
theorem syE_code {d c m : List Int} {sy : List Sm} {i : Nat} {x : Sm} (hx : sy.getD i RT.sym.dflt = x) (hn : symOk x.name = true) (hm : mapGet (mpS sy i) x.name = 0) (h2 : x.in_ = 2) (hv : 0 ≤ x.value) (hv2 : x.value < c.length) (hv3 : m.getD x.value.toNat 0 = 1) : (syE d c m sy i).isErr = false := by
 unfold syE symE
 rw [hx, hm, hn, if_neg (by decide), if_neg (by decide)]
 have : symFine d c m x.in_ x.value x.global = true := by
  unfold symFine
  rw [if_neg (by omega), if_pos h2, hv3, decide_eq_true hv, decide_eq_true hv2]; rfl
 rw [if_pos this]; rfl
theorem syE_data {d c m : List Int} {sy : List Sm} {i : Nat} {x : Sm} (hx : sy.getD i RT.sym.dflt = x) (hn : symOk x.name = true) (hm : mapGet (mpS sy i) x.name = 0) (h2 : x.in_ = 1) (hv : 0 < x.value) (hv2 : x.value < d.length) : (syE d c m sy i).isErr = false := by
 unfold syE symE
 rw [hx, hm, hn, if_neg (by decide), if_neg (by decide)]
 have : symFine d c m x.in_ x.value x.global = true := by
  unfold symFine
  rw [if_pos h2, decide_eq_true hv, decide_eq_true hv2]; simp
 rw [if_pos this]; rfl
end Go.Proofs.YtacmmedhjebfjaaDoor
set_option linter.unusedVariables false
set_option linter.unusedSimpArgs false
namespace Go.Proofs.YtacmmedhjebfjaaDoor
open Go.RowKit Go.Sy Go.Fac
def fT (k : Nat) : ByteArray := ⟨#[102]⟩ ++ itoaB k
def nmT (k : Nat) : ByteArray := if k = 0 then mainT else fT k
theorem all2 {n : Nat} {f : Nat → Nat → Bool} (h : ((List.range n).all fun j => (List.range n).all fun k => f j k) = true) {j k : Nat} (hj : j < n) (hk : k < n) : f j k = true :=
 List.all_eq_true.1 (List.all_eq_true.1 h j (List.mem_range.2 hj)) k (List.mem_range.2 hk)
theorem nm_inj {j k : Nat} (hj : j < 18) (hk : k < 18) (h : nmT j = nmT k) : j = k := by
 have := all2 (n := 18) (f := fun j k => decide (nmT j = nmT k → j = k)) (by decide +kernel) hj hk
 exact of_decide_eq_true this h
theorem nm_ok {k : Nat} (hk : k < 18) : symOk (nmT k) = true := by
 have : ((List.range 18).all fun k => symOk (nmT k)) = true := by decide +kernel
 exact List.all_eq_true.1 this k (List.mem_range.2 hk)
theorem nm_ne {k : Nat} (hk : k < 18) : nmT k ≠ ByteArray.empty := by
 have : ((List.range 18).all fun k => decide (nmT k ≠ ByteArray.empty)) = true := by decide +kernel
 exact of_decide_eq_true (List.all_eq_true.1 this k (List.mem_range.2 hk))
theorem fold_at {a : ByteArray} (h : a ≠ ByteArray.empty) : oStep ⟨⟨0, 0, 0, 0, 0⟩, a, ByteArray.empty, false⟩ (⟨[], [], [], []⟩ : OS) = ⟨[], [], [], [⟨a, 2, 0, true⟩]⟩ := by
 unfold oStep
 rw [if_pos h]; rfl
end Go.Proofs.YtacmmedhjebfjaaDoor
set_option linter.unusedVariables false
set_option linter.unusedSimpArgs false
namespace Go.Proofs.YtacmmedhjebfjaaDoor
open Go.RowKit Go.Sy Go.Fac
end Go.Proofs.YtacmmedhjebfjaaDoor
set_option linter.unusedVariables false
set_option linter.unusedSimpArgs false
namespace Go.Proofs.YtacmmedhjebfjaaDoor
open Go.RowKit Go.Sy Go.Fac
def NoBr (l : List Ob) : Prop := ∀ i j, i < l.length → j < (obN l i).crels.length → (relN l i j).kind ≠ 2
theorem nobr_itF {l : List Ob} (h : NoBr l) (g : Glb) : itF l g = oIt l l.length := by
 have hJ : ∀ i, i < l.length → ∀ its j, j ≤ (obN l i).crels.length → brJ l g i its j = its := fun i hi its j => by
  induction j with
  | zero => intro _; rfl
  | succ j ih => intro hj; rw [brJ, ih (by omega), brS, if_neg (h i j hi (by omega))]
 have hO : ∀ i, i ≤ l.length → brO l g i = oIt l l.length := fun i => by
  induction i with
  | zero => intro _; rfl
  | succ i ih => intro hi; rw [brO, ih (by omega)]; exact hJ i (by omega) _ _ (Nat.le_refl _)
 exact hO _ (Nat.le_refl _)
theorem nobr_b {l : List Ob} (h : NoBr l) (g : Glb) (n : Nat) : itB (itF l g) n = false := by rw [nobr_itF h]; exact (oIt_zero l _ n).2
theorem nobr_lo {l : List Ob} (h : NoBr l) (g : Glb) (n : Nat) : (loF l g).getD n false = false := by
 cases e : (loF l g).getD n false with
 | false => rfl
 | true => have := lo_br e; rw [nobr_b h] at this; cases this
theorem nobr_pl {l : List Ob} (h : NoBr l) (g : Glb) : ∀ n, plN l g n = sumS (itF l g) n
 | 0 => rfl
 | n + 1 => by
  have ih : plS (itF l g) (loF l g) n = sumS (itF l g) n := nobr_pl h g n
  show plS (itF l g) (loF l g) (n + 1) = sumS (itF l g) (n + 1)
  rw [plS, sumS, ih, nobr_lo h, if_neg (by decide), Int.add_zero]
def tl (c m : List Int) : Nat → Int
 | 0 => 0
 | w + 1 => tl c m w + if m.getD w 0 = 0 then 0 else szW c m w
def wdS (l : List Ob) : Nat → Int
 | 0 => 0
 | o + 1 => wdS l o + tl (obN l o).code (obN l o).map (obN l o).map.length
theorem sum_in {l : List Ob} (g : Glb) {o : Nat} (ho : o < l.length) (hs : sumS (itF l g) (oBs l o) = wdS l o) : ∀ w, w ≤ (obN l o).map.length → sumS (itF l g) (pix l o w) = wdS l o + tl (obN l o).code (obN l o).map w
 | 0, _ => by show sumS (itF l g) (oBs l o + 0) = _; rw [Nat.add_zero, hs]; exact (Int.add_zero _).symm
 | w + 1, hw => by
  have ih := sum_in g ho hs w (by omega)
  unfold pix at ih ⊢
  rw [rk, tl]
  by_cases hm : (obN l o).map.getD w 0 = 0
  ·rw [if_pos hm, if_pos hm, Nat.add_zero, ih]; omega
  ·rw [if_neg hm, if_neg hm, ← Nat.add_assoc, sumS, ih]
   have e : itS (itF l g) (pix l o w) = szW (obN l o).code (obN l o).map w := by
    rw [brO_size]; unfold itS
    rw [oIt_get l itT.dflt (by omega) hm l.length ho]
   unfold pix at e
   rw [e]; omega
theorem sum_at {l : List Ob} (g : Glb) : ∀ o, o ≤ l.length → sumS (itF l g) (oBs l o) = wdS l o
 | 0, _ => rfl
 | o + 1, ho => by
  have h := sum_in g (show o < l.length by omega) (sum_at g o (by omega)) _ (Nat.le_refl _)
  exact h
theorem nobr_at {l : List Ob} (h : NoBr l) (g : Glb) {o w : Nat} (ho : o < l.length) (hw : w ≤ (obN l o).map.length) : plN l g (pix l o w) = wdS l o + tl (obN l o).code (obN l o).map w := by
 rw [nobr_pl h, sum_in g ho (sum_at g o (by omega)) w hw]
theorem wdS_all {l : List Ob} {k : Int} (h : ∀ o, o < l.length → tl (obN l o).code (obN l o).map (obN l o).map.length = k) : ∀ o, o ≤ l.length → wdS l o = k * o
 | 0, _ => by simp [wdS]
 | o + 1, ho => by
  rw [wdS, wdS_all h o (by omega), h o (by omega), Int.natCast_succ, Int.mul_add, Int.mul_one]
theorem oBs_all {l : List Ob} {k : Nat} (h : ∀ o, o < l.length → rk (obN l o).map (obN l o).map.length = k) : ∀ o, o ≤ l.length → oBs l o = k * o
 | 0, _ => by simp [oBs]
 | o + 1, ho => by rw [oBs, oBs_all h o (by omega), h o (by omega), Nat.mul_succ]
theorem oDn_all {l : List Ob} {k : Int} (h : ∀ o, o < l.length → ((obN l o).data.length : Int) = k) : ∀ o, o ≤ l.length → oDn l o = k * o
 | 0, _ => by simp [oDn]
 | o + 1, ho => by rw [oDn, oDn_all h o (by omega), h o (by omega), Int.natCast_succ, Int.mul_add, Int.mul_one]
theorem nobr_len {l : List Ob} {g : Glb} (K : LkOk l g) (h : NoBr l) : ((imgM l g).code.length : Int) = wdS l l.length := by
 rw [code_len K, nobr_pl h, sum_at g _ (Nat.le_refl _)]
end Go.Proofs.YtacmmedhjebfjaaDoor
set_option linter.unusedVariables false
set_option linter.unusedSimpArgs false
namespace Go.Proofs.YtacmmedhjebfjaaDoor
open Go.RowKit Go.Sy Go.Fac
def dT : ByteArray := ⟨#[100]⟩
theorem nm_d {k : Nat} (hk : k < 18) : nmT k ≠ dT := by
 have : ((List.range 18).all fun k => decide (nmT k ≠ dT)) = true := by decide +kernel
 exact of_decide_eq_true (List.all_eq_true.1 this k (List.mem_range.2 hk))
def datL (nm : ByteArray) : List Ln := [⟨⟨0, 0, 0, 0, 0⟩, nm, ByteArray.empty, false⟩, opL 1 []]
abbrev datR (a : Int) : List Rel := [⟨0, 1, 1, a⟩, ⟨1, 1, 0, 0⟩]
abbrev datS (nm : ByteArray) : List Sm := [⟨nm, 2, 0, true⟩, ⟨dT, 1, 2, false⟩]
def datO (nm : ByteArray) (a : Int) : Ob := ⟨[7, 8, 9], [16777216], [1], datR a, [], datS nm⟩
def dU (a : Int) (i : Nat) : List Ob := (List.range i).map fun i => datO (nmT i) a
theorem dU_succ (a : Int) (i : Nat) : dU a (i + 1) = dU a i ++ [datO (nmT i) a] := by unfold dU; rw [List.range_succ, List.map_append]; rfl
theorem dU_len (a : Int) (n : Nat) : (dU a n).length = n := by simp [dU]
theorem dU_get {a : Int} {n i : Nat} (h : i < n) : obN (dU a n) i = datO (nmT i) a := by
 unfold dU obN
 rw [List.getD_eq_getElem?_getD, List.getElem?_map, List.getElem?_range h]; rfl
theorem dat_mk {nm : ByteArray} (h : nm ≠ ByteArray.empty) : oAll (datL nm) = ⟨[16777216], [1], [], [⟨nm, 2, 0, true⟩]⟩ := by
 rw [oAll_fold, datL, List.foldl_cons, fold_at h]; rfl
theorem dat_v {nm : ByteArray} (h1 : symOk nm = true) (h2 : nm ≠ dT) {a : Int} (ha : -1000 ≤ a ∧ a ≤ 1000) : vBE (datO nm a) = .fine := by
 refine vBE_ok (o := datO nm a) ?_ ?_ ?_ ?_ ?_ ?_ (fun i hi => ?_) (fun i hi => ?_) (fun i hi => ?_) (fun i hi => ?_) (fun i hi => ?_)
 ·show 1 ≤ 2048; omega
 ·rfl
 ·show 3 ≤ 2048; omega
 ·show 2 ≤ 1024; omega
 ·exact Nat.zero_le _
 ·show 2 ≤ 256; omega
 ·have hi : i < 1 := hi
  have : i = 0 := by omega
  subst this; rfl
 ·have hi : i < 2 := hi
  rcases (by omega : i = 0 ∨ i = 1) with rfl | rfl
  ·exact syE_code (x := ⟨nm, 2, 0, true⟩) rfl h1 rfl rfl (Int.le_refl _) (show (0 : Int) < 1 by decide) rfl
  ·refine syE_data (x := ⟨dT, 1, 2, false⟩) rfl rfl ?_ rfl (show (0 : Int) < 2 by decide) (show (2 : Int) < 3 by decide)
   have e : mpS (datS nm) 1 = [(nm, (0 : Int) + 1)] := by
    show symMp nm [] = _
    unfold symMp; rw [if_neg (by rw [h1]; simp)]; rfl
   show mapGet (mpS (datS nm) 1) dT = 0
   rw [e]; simp [mapGet, h2]
 ·have hi : i < 2 := hi
  rcases (by omega : i = 0 ∨ i = 1) with rfl | rfl
  ·have e : relocE 2 0 1 1 a (-1) 3 1 = .fine := by
    unfold relocE relocB
    rw [decide_eq_false (show ¬ a < -65536 by omega), decide_eq_false (show ¬ 65536 < a by omega)]; rfl
   show (if (!(relocE 2 0 1 1 a (-1) 3 1).isErr && !decide (a = 0) && !decide ((1 : Int) = 1)) = true then FErr.bare 102 else relocE 2 0 1 1 a (-1) 3 1).isErr = false
   rw [e]; simp [FErr.isErr]
  ·show (if (!(relocE 2 1 1 0 0 0 3 1).isErr && !decide ((0 : Int) = 0) && !decide ((2 : Int) = 1)) = true then FErr.bare 102 else relocE 2 1 1 0 0 0 3 1).isErr = false
   rfl
 ·exact absurd hi (Nat.not_lt_zero _)
 ·have hi : i < 1 := hi
  have : i = 0 := by omega
  subst this; rfl
structure Dat (n : Nat) (a : Int) : Prop where
 n1 : 1 ≤ n
 n8 : n ≤ 8
 lo : -1000 ≤ a
 hi : a ≤ 1000
theorem du_v {n : Nat} {a : Int} (D : Dat n a) {i : Nat} (hi : i < n) : vBE (obN (dU a n) i) = .fine := by
 have := D.n8
 rw [dU_get hi]; exact dat_v (nm_ok (by omega)) (nm_d (by omega)) ⟨D.lo, D.hi⟩
theorem du_sy {n : Nat} {a : Int} {i : Nat} (hi : i < n) : syO (dU a n) i 0 = ⟨nmT i, 2, 0, true⟩ ∧ syO (dU a n) i 1 = ⟨dT, 1, 2, false⟩ ∧ (obN (dU a n) i).syms.length = 2 := by
 unfold syO; rw [dU_get hi]; exact ⟨rfl, rfl, rfl⟩
theorem du_uniq {n : Nat} {a : Int} (D : Dat n a) : Uniq (dU a n) := fun o s o' s' ho ho' hs hs' he he' hn => by
 have := D.n8
 rw [dU_len] at ho ho'
 obtain ⟨a0, a1, a2⟩ := du_sy (a := a) ho
 obtain ⟨b0, b1, b2⟩ := du_sy (a := a) ho'
 rw [a2] at hs; rw [b2] at hs'
 rcases (by omega : s = 0 ∨ s = 1) with rfl | rfl
 ·rcases (by omega : s' = 0 ∨ s' = 1) with rfl | rfl
  ·rw [a0, b0] at hn
   exact ⟨nm_inj (by omega) (by omega) hn, rfl⟩
  ·rw [b1] at he'; exact Bool.noConfusion he'.1
 ·rw [a1] at he; exact Bool.noConfusion he.1
theorem du_lks {n : Nat} {a : Int} (D : Dat n a) : Lks (dU a n) := by
 have n1 := D.n1
 have n8 := D.n8
 refine ⟨by rw [dU_len]; omega, fun i hi => by rw [dU_len] at hi; exact du_v D hi, du_uniq D, fun i s hi hs h3 => ?_, fun i j hi hj _ => ?_, ?_⟩
 ·rw [dU_len] at hi
  obtain ⟨a0, a1, a2⟩ := du_sy (a := a) hi
  rw [a2] at hs
  rcases (by omega : s = 0 ∨ s = 1) with rfl | rfl
  ·rw [a0] at h3; exact absurd h3 (show (2 : Int) ≠ 3 by decide)
  ·rw [a1] at h3; exact absurd h3 (show (1 : Int) ≠ 3 by decide)
 ·rw [dU_len] at hi; rw [dU_get hi] at hj; exact absurd hj (Nat.not_lt_zero _)
 ·obtain ⟨b0, _, b2⟩ := du_sy (a := a) (i := 0) (show 0 < n by omega)
  exact ⟨0, 0, by rw [dU_len]; omega, by rw [b2]; omega, by rw [b0]; exact ⟨rfl, show (2 : Int) ≠ 3 by decide⟩, by rw [b0]; rfl, by rw [b0]⟩
theorem du_nobr {n : Nat} {a : Int} : NoBr (dU a n) := fun i j hi hj => by
 rw [dU_len] at hi; rw [dU_get hi] at hj; exact absurd hj (Nat.not_lt_zero _)
theorem du_dn {n : Nat} {a : Int} : ∀ o, o ≤ (dU a n).length → oDn (dU a n) o = 3 * o :=
 oDn_all (k := 3) fun o ho => by rw [dU_len] at ho; rw [dU_get ho]; rfl
theorem du_laid {n : Nat} {a : Int} (D : Dat n a) : laidE (dU a n) = .fine := by
 have n8 := D.n8
 refine (du_lks D).ok ?_ ?_
 ·rw [du_dn _ (Nat.le_refl _), dU_len]; omega
 ·rw [oBs_all (k := 1) (fun o ho => by rw [dU_len] at ho; rw [dU_get ho]; rfl) _ (Nat.le_refl _), dU_len]; omega
theorem du_wd {n : Nat} {a : Int} : ∀ o, o ≤ (dU a n).length → wdS (dU a n) o = 1 * o :=
 wdS_all fun o ho => by rw [dU_len] at ho; rw [dU_get ho]; rfl
def dX (a : Int) : Nat → List Int
 | 0 => []
 | i + 1 => dX a i ++ [u32W (3 * i + 2 + u32W a), u32W (2048 + i + u32W 0), 9]
def rX : Nat → List Int
 | 0 => []
 | i + 1 => rX i ++ [3 * (i : Int) + 1]
theorem dX_len (a : Int) : ∀ i, (dX a i).length = 3 * i
 | 0 => rfl
 | i + 1 => by rw [dX, List.length_append, dX_len a i]; simp only [List.length_cons, List.length_nil]; omega
theorem rX_len : ∀ i, (rX i).length = i
 | 0 => rfl
 | i + 1 => by rw [rX, List.length_append, rX_len i]; rfl
theorem rX_get : ∀ n i, i < n → (rX n).getD i 0 = 3 * (i : Int) + 1
 | 0, i, h => by omega
 | n + 1, i, h => by
  rw [rX]
  by_cases e : i = n
  ·subst e
   have := getD_one (rX i) (3 * (i : Int) + 1) 0
   rw [rX_len] at this; exact this
  ·rw [getD_app_l _ _ _ (by rw [rX_len]; omega)]; exact rX_get n i (by omega)
theorem dX_get (a : Int) : ∀ n i, i < n → (dX a n).getD (3 * i) 0 = u32W (3 * i + 2 + u32W a) ∧ (dX a n).getD (3 * i + 1) 0 = u32W (2048 + i + u32W 0) ∧ (dX a n).getD (3 * i + 2) 0 = 9
 | 0, i, h => by omega
 | n + 1, i, h => by
  rw [dX]
  have hl := dX_len a n
  by_cases e : i = n
  ·subst e
   rw [getD_app_r _ _ _ (by omega), getD_app_r _ _ _ (by omega), getD_app_r _ _ _ (by omega), hl, Nat.sub_self, Nat.add_sub_cancel_left, Nat.add_sub_cancel_left]
   exact ⟨rfl, rfl, rfl⟩
  ·rw [getD_app_l _ _ _ (by omega), getD_app_l _ _ _ (by omega), getD_app_l _ _ _ (by omega)]
   exact dX_get a n i (by omega)
theorem set_app {α : Type} (l l' : List α) (i : Nat) (x : α) : (l ++ l').set (l.length + i) x = l ++ l'.set i x := by
 induction l with
 | nil => simp
 | cons b l ih =>
  have : (b :: l).length + i = (l.length + i) + 1 := by simp only [List.length_cons]; omega
  rw [this]
  show b :: ((l ++ l').set (l.length + i) x) = _
  rw [ih]; rfl
theorem du_dt {n : Nat} {a : Int} (D : Dat n a) : ∀ i, i ≤ n → dtO (dU a n) (nmG (dU a n)) i = (dX a i, rX i)
 | 0, _ => rfl
 | i + 1, hi => by
  have ih := du_dt D i (by omega)
  have hlt : i < n := by omega
  obtain ⟨s0, s1, s2⟩ := du_sy (a := a) hlt
  have hdn := du_dn (n := n) (a := a) i (by rw [dU_len]; omega)
  have d0 : drlN (dU a n) i 0 = ⟨0, 1, 1, a⟩ := by unfold drlN; rw [dU_get hlt]; rfl
  have d1 : drlN (dU a n) i 1 = ⟨1, 1, 0, 0⟩ := by unfold drlN; rw [dU_get hlt]; rfl
  have r1 : realM (dU a n) (nmG (dU a n)) i 1 = ((i : Int), ((1 : Nat) : Int)) := real_self (s := 1) (by rw [s1]; exact (show (1 : Int) ≠ 3 by decide))
  have r0 : realM (dU a n) (nmG (dU a n)) i 0 = ((i : Int), ((0 : Nat) : Int)) := real_self (s := 0) (by rw [s0]; exact (show (2 : Int) ≠ 3 by decide))
  have a1 : adrL (dU a n) (nmG (dU a n)) ((i : Int), ((1 : Nat) : Int)) = 3 * i + 2 := by
   unfold adrL
   simp only [symAt_nat, s1]
   rw [if_pos trivial, Int.toNat_natCast, hdn]
  have hpl := nobr_at du_nobr (nmG (dU a n)) (l := dU a n) (o := i) (w := 0) (by rw [dU_len]; omega) (Nat.zero_le _)
  rw [du_wd i (by rw [dU_len]; omega)] at hpl
  have a0 : adrL (dU a n) (nmG (dU a n)) ((i : Int), ((0 : Nat) : Int)) = 2048 + i := by
   unfold adrL
   simp only [symAt_nat, s0]
   rw [if_neg (show ¬ (2 : Int) = 1 by decide), Int.toNat_natCast]
   show 2048 + plN (dU a n) (nmG (dU a n)) (pix (dU a n) i 0) = _
   rw [hpl]
   show 2048 + (1 * (i : Int) + 0) = _
   omega
  have hl := dX_len a i
  rw [dtO, ih, dU_get hlt]
  show dtS (dU a n) (nmG (dU a n)) i 1 (dtS (dU a n) (nmG (dU a n)) i 0 (dX a i ++ [7, 8, 9], rX i)) = _
  unfold dtS
  rw [d0, d1]
  simp only
  rw [r0, r1, a0, a1, hdn]
  simp only [symAt_nat, s0, s1]
  rw [if_pos trivial, if_neg (show ¬ (1 : Int) = 2 by decide)]
  have e0 : (3 * (i : Int) + 0).toNat = (dX a i).length + 0 := by rw [hl]; omega
  have e1 : (3 * (i : Int) + 1).toNat = (dX a i).length + 1 := by rw [hl]; omega
  rw [e0, e1, set_app, set_app]
  rfl
theorem du_img {n : Nat} {a : Int} (D : Dat n a) : linkI (dU a n) = imgM (dU a n) (nmG (dU a n)) ∧ (imgM (dU a n) (nmG (dU a n))).code.length = n ∧ (imgM (dU a n) (nmG (dU a n))).data = dX a n ∧ (imgM (dU a n) (nmG (dU a n))).drefs = rX n ∧
  (imgM (dU a n) (nmG (dU a n))).entry = 2048 ∧ whE (dU a n) mainT = .fine ∧ whV (dU a n) mainT = 2048 := by
 have n1 := D.n1
 have hl := du_laid D
 have he : (laidE (dU a n)).isErr = false := by rw [hl]; rfl
 obtain ⟨K, _, _⟩ := laid_ok he
 obtain ⟨en, ed, er⟩ := ptN_entry (dU a n) (nmG (dU a n)) (itF (dU a n) (nmG (dU a n))).length
 have hd := du_dt D n (Nat.le_refl _)
 have hlen : (dU a n).length = n := dU_len a n
 obtain ⟨s0, s1, s2⟩ := du_sy (a := a) (i := 0) (show 0 < n by omega)
 have hf := nmO_ok (du_uniq D) (fun i hi => by rw [dU_len] at hi; exact du_v D hi) (dU a n).length (Nat.le_refl _)
 obtain ⟨g1, g2⟩ := glG_at hf (o := 0) (s := 0) (by rw [dU_len]; omega) (by rw [s2]; omega) (by rw [s0]; exact ⟨rfl, show (2 : Int) ≠ 3 by decide⟩)
 rw [s0] at g1 g2
 have g1 : glH (nmG (dU a n)) mainT = true := g1
 have g2 : glG (nmG (dU a n)) mainT = (((0 : Nat) : Int), ((0 : Nat) : Int)) := g2
 have hpl := nobr_at du_nobr (nmG (dU a n)) (l := dU a n) (o := 0) (w := 0) (by rw [dU_len]; omega) (Nat.zero_le _)
 have ha : adrL (dU a n) (nmG (dU a n)) (((0 : Nat) : Int), ((0 : Nat) : Int)) = 2048 := by
  unfold adrL
  simp only [symAt_nat, s0]
  rw [if_neg (show ¬ (2 : Int) = 1 by decide)]
  show 2048 + plN (dU a n) (nmG (dU a n)) (pix (dU a n) 0 0) = _
  rw [hpl]; rfl
 have hw : whE (dU a n) mainT = .fine := by unfold whE; rw [if_neg (by rw [he]; simp), if_pos g1]
 refine ⟨linkI_ok hl, ?_, ?_, ?_, ?_, hw, ?_⟩
 ·have := nobr_len K du_nobr
  rw [du_wd _ (Nat.le_refl _), dU_len] at this; omega
 ·show (ptN (dU a n) (nmG (dU a n)) (itF (dU a n) (nmG (dU a n))).length).data = _
  rw [ed]
  show (dtO (dU a n) (nmG (dU a n)) (dU a n).length).1 = _
  rw [hlen, hd]
 ·show (ptN (dU a n) (nmG (dU a n)) (itF (dU a n) (nmG (dU a n))).length).drefs = _
  rw [er]
  show (dtO (dU a n) (nmG (dU a n)) (dU a n).length).2 = _
  rw [hlen, hd]
 ·show (ptN (dU a n) (nmG (dU a n)) (itF (dU a n) (nmG (dU a n))).length).entry = _
  rw [en]
  show adrL (dU a n) (nmG (dU a n)) (glG (nmG (dU a n)) mainT) = _
  rw [g2]; exact ha
 ·unfold whV; rw [hw, if_neg (by simp [FErr.isErr]), g2]; exact ha
end Go.Proofs.YtacmmedhjebfjaaDoor
set_option linter.unusedVariables false
set_option linter.unusedSimpArgs false
set_option linter.unusedSectionVars false
namespace Go.Proofs.YtacmmedhjebfjaaDoor
open Go.RowKit Go.Sy Go.Fac
section
variable {ea : Ear} {has : Int → Prop} {rest : List (Nat × SVal)} [ht : Nonempty (EType ea)] [hpw : Nonempty (Pow ea)]
def vImg (e : Int) (d c : Nat) : Int := if 2048 < d ∨ 2048 < c then 104 else if e < 2048 ∨ 2048 + (c : Int) ≤ e then 103 else 0
def kValidI : List SVal → Nat → Acc ORes := fun a n => match a with | [.agg [.int .u32 e, .ro .u32 d, .ro .u32 c, .ro .i64 r, .ro .i64 p, .ro .i64 s]] => .ret ({ v := .int .i64 (.full (vImg e.val d.length c.length)), vc := some (c.length ≤ 1000000) }) | _ => .fail "ValidI"
theorem argValidI (e : SI) (d c r p s : List Int) : (all (subL tAtN none' [] deep [.agg [.int .u32 e, .ro .u32 d, .ro .u32 c, .ro .i64 r, .ro .i64 p, .ro .i64 s]] [.agg [.int .u32 (.full e.val), .ro .u32 d, .ro .u32 c, .ro .i64 r, .ro .i64 p, .ro .i64 s]])) = (
 SI.val e = SI.val e ∧ d = d ∧ c = c ∧ r = r ∧ p = p ∧ s = s) := by kernel_rfl
theorem runValidI (rest : List (Nat × SVal)) (e : Int) (d : List Int) (c : List Int) (r : List Int) (p : List Int) (s : List Int) : (Tr.sat (plainQ (.int .i64 (.full (vImg e d.length c.length)))) (run (env (G7 ++ rest) []) [] (bodyOf Tryd.f27) (start [.agg [.int .u32 (.full e), .ro .u32 d, .ro .u32 c, .ro .i64 r, .ro .i64 p, .ro .i64 s]] 26) (ends (env (G7 ++ rest) []) Tryd.f27.results.toList))) = (
 IT (decide ((2048 : Int) < (↑(List.length d) : Int)) || decide ((2048 : Int) < (↑(List.length c) : Int))) ((104 : Int) = vImg e (List.length d) (List.length c)) (IT (decide (e < 2048) || decide (IntKind.wrap IntKind.i64 ((2048 : Int) + (↑(List.length c) : Int)) ≤ e)) ((103 : Int) = vImg e (List.length d) (List.length c)) ((0 : Int) = vImg e (List.length d) (List.length c)))) := by kernel_rfl
set_option maxHeartbeats 4000000 in
theorem cValidI : Con ea has (G7 ++ rest) 27 kValidI := by
 refine plain_mkB Tryd.func27 26 (con := []) trivial (fun hA hr hv => ?_) (by kernel_rfl) (by kernel_rfl) Tryd.ntmps27
 unfold kValidI at hr; split at hr
 ·rename_i e d c r p s
  have := ret_ok hr; subst this
  replace hv := hv _ rfl
  refine ⟨_, [], rfl, rfl, .of (argValidI e d c r p s) (by simp), rfl, (fun W R ρ0 own0 hown => noSums (by kernel_rfl)), .of (runValidI rest e.val d c r p s) ?_⟩
  delta IT
  clear hr
  have w : IntKind.i64.wrap (2048 + (c.length : Int)) = 2048 + c.length := by
   have : c.length ≤ 1000000 := hv
   rw [IntKind.wrap_i64]; omega
  rw [w]
  unfold vImg
  refine ⟨fun h => ?_, fun h => ⟨fun g => ?_, fun g => ?_⟩⟩
  ·rw [Bool.or_eq_true, decide_eq_true_eq, decide_eq_true_eq] at h
   rw [if_pos (by omega)]
  ·rw [Bool.or_eq_false_iff, decide_eq_false_iff_not, decide_eq_false_iff_not] at h
   rw [Bool.or_eq_true, decide_eq_true_eq, decide_eq_true_eq] at g
   rw [if_neg (by omega), if_pos (by omega)]
  ·rw [Bool.or_eq_false_iff, decide_eq_false_iff_not, decide_eq_false_iff_not] at h g
   rw [if_neg (by omega), if_neg (by omega)]
 ·cases hr
abbrev datF (n : Nat) (a : Int) : List (Nat × SVal) := [(0, .int .i64 (.sym (n : Int) 1 8)), (1, .int .i64 (.sym a (-1000) 1000)), (5, .bool (.lit true)), (6, .own 0)]
def HdatA (n : Nat) (a : Int) (i : Nat) : SState := { fr := datF n a ++ [(7, .int .i64 (.sym i 0 1000000))], hp := [(0, some (.recs .obj (dU a i)))], next := 1, sz := 155 }
def XdatA (n : Nat) (a : Int) : SState := { fr := datF n a, hp := [(0, some (.recs .obj (dU a n)))], next := 1, sz := 155 }
def LdatA (n : Nat) (a : Int) : LSum := ⟨HdatA n a 0, fun k => k (.exit 0) (XdatA n a), Dat n a⟩
theorem bdatA (rest : List (Nat × SVal)) (n : Nat) (a : Int) (i : Nat) : (Tr.sat (rnd1 (env (G7 ++ rest) [(8, kfirst13), (14, kNumber), (25, kNum), (15, kAt), (17, kOp), (18, kObjectF), (10, kLinkF), (26, kWhere), (27, kValidI)]) (fun _ => True) (n) (HdatA n a) 0 (XdatA n a) i) (run (env (G7 ++ rest) [(8, kfirst13), (14, kNumber), (25, kNum), (15, kAt), (17, kOp), (18, kObjectF), (10, kLinkF), (26, kWhere), (27, kValidI)]) [(2000013, cutL { fr := datF n a ++ [(7, .int .i64 (.sym (i : Int) 0 1000000)), (8, .str (nmT i))], hp := [(0, some (.recs .obj (dU a i)))], next := 1, sz := 155 }), (1000015, cutL { fr := datF n a ++ [(7, .int .i64 (.sym (i : Int) 0 1000000)), (9, .ptr 1 0)], hp := [(0, some (.recs .obj (dU a i))), (1, some (.cells [.ro .u32 [7, 8, 9], .ro .u32 [16777216], .ro .u8 [1], .ro .rel (datR a), .ro .rel [], .ro .sym (datS (nmT i))]))], next := 2, sz := 155 })] (loopN (bodyOf Tryd.f7) 0) (HdatA n a i) .leaf)) = (
 IT (decide ((↑i : Int) < (↑n : Int))) (RQ (ByteArray.size (ByteArray.mk #[(102 : UInt8)]) + ByteArray.size (itoaB (↑i : Int)) ≤ 9223372036854775807) ((IT (decide ((↑i : Int) = 0)) ((↑n : Int) = (↑n : Int) ∧ a = a ∧ true = true ∧ (↑i : Int) = (↑i : Int) ∧ ByteArray.mk #[(109 : UInt8), (97 : UInt8), (105 : UInt8), (110 : UInt8)] = nmT i ∧ dU a i = dU a i) ((↑n : Int) = (↑n : Int) ∧ a = a ∧ true = true ∧ (↑i : Int) = (↑i : Int) ∧ ByteArray.mk #[(102 : UInt8)] ++ itoaB (↑i : Int) = nmT i ∧ dU a i = dU a i)) ∧ RQ (List.length [Ln.mk (In5.mk (0 : Int) (0 : Int) (0 : Int) (0 : Int) (0 : Int)) (nmT i) ByteArray.empty false, opL (1 : Int) (nilR RT.i64)] ≤ 100000 ∧ shortN [(7 : Int), (8 : Int), (9 : Int)]) (RQ (List.length (oAll [Ln.mk (In5.mk (0 : Int) (0 : Int) (0 : Int) (0 : Int) (0 : Int)) (nmT i) ByteArray.empty false, opL (1 : Int) (nilR RT.i64)]).sy + List.length [Sm.mk (ByteArray.mk #[(100 : UInt8)]) (1 : Int) (2 : Int) false] ≤ 137438953472) (RQ ((↑n : Int) = (↑n : Int) ∧ a = a ∧ true = true ∧ (↑i : Int) = (↑i : Int) ∧ dU a i = dU a i ∧ [(7 : Int), (8 : Int), (9 : Int)] = [(7 : RT.ty RT.u32), (8 : RT.ty RT.u32), (9 : RT.ty RT.u32)] ∧ (oAll [Ln.mk (In5.mk (0 : Int) (0 : Int) (0 : Int) (0 : Int) (0 : Int)) (nmT i) ByteArray.empty false, opL (1 : Int) (nilR RT.i64)]).code = [(16777216 : RT.ty RT.u32)] ∧ (oAll [Ln.mk (In5.mk (0 : Int) (0 : Int) (0 : Int) (0 : Int) (0 : Int)) (nmT i) ByteArray.empty false, opL (1 : Int) (nilR RT.i64)]).map = [(1 : RT.ty RT.u8)] ∧ [Rel.mk (0 : Int) (1 : Int) (1 : Int) a, Rel.mk (1 : Int) (1 : Int) (0 : Int) (0 : Int)] = datR a ∧ (oAll [Ln.mk (In5.mk (0 : Int) (0 : Int) (0 : Int) (0 : Int) (0 : Int)) (nmT i) ByteArray.empty false, opL (1 : Int) (nilR RT.i64)]).cr = @List.nil (RT.ty RT.rel) ∧ (oAll [Ln.mk (In5.mk (0 : Int) (0 : Int) (0 : Int) (0 : Int) (0 : Int)) (nmT i) ByteArray.empty false, opL (1 : Int) (nilR RT.i64)]).sy ++ [Sm.mk (ByteArray.mk #[(100 : UInt8)]) (1 : Int) (2 : Int) false] = datS (nmT i)) (RQ (List.length (dU a i) + List.length [Ob.mk [(7 : RT.ty RT.u32), (8 : RT.ty RT.u32), (9 : RT.ty RT.u32)] [(16777216 : RT.ty RT.u32)] [(1 : RT.ty RT.u8)] (datR a) (@List.nil (RT.ty RT.rel)) (datS (nmT i))] ≤ 137438953472) (i < n ∧ True ∧ (↑n : Int) = (↑n : Int) ∧ a = a ∧ true = true ∧ (↑i : Int) + 1 = (↑(i + 1) : Int) ∧ (0 ≤ (↑(i + 1) : Int) ∧ (↑(i + 1) : Int) ≤ 1000000) ∧ dU a i ++ [Ob.mk [(7 : RT.ty RT.u32), (8 : RT.ty RT.u32), (9 : RT.ty RT.u32)] [(16777216 : RT.ty RT.u32)] [(1 : RT.ty RT.u8)] (datR a) (@List.nil (RT.ty RT.rel)) (datS (nmT i))] = dU a (i + 1))))))) (Nat.beq (0 : Nat) (0 : Nat) = true ∧ (↑n : Int) = (↑n : Int) ∧ a = a ∧ true = true ∧ dU a i = dU a n)) := by kernel_rfl
set_option maxHeartbeats 4000000 in
theorem ldatA (n : Nat) (a : Int) {W : World} {R own0 : Nat → Prop} {ρ0 : Nat → Option Value} (hown : HownOk (env (G7 ++ rest) [(8, kfirst13), (14, kNumber), (25, kNum), (15, kAt), (17, kOp), (18, kObjectF), (10, kLinkF), (26, kWhere), (27, kValidI)]) own0 ρ0) : LOk Tryd.prog (env (G7 ++ rest) [(8, kfirst13), (14, kNumber), (25, kNum), (15, kAt), (17, kOp), (18, kObjectF), (10, kLinkF), (26, kWhere), (27, kValidI)]) (ctx ea has) (G7 ++ rest) W R own0 ρ0 (loopN (bodyOf Tryd.f7) 0) (LdatA n a) := by
 refine loop1_ok (J := fun _ => True) (N := n) (H := HdatA n a) (X := XdatA n a) (env_ok (con := [(8, kfirst13), (14, kNumber), (25, kNum), (15, kAt), (17, kOp), (18, kObjectF), (10, kLinkF), (26, kWhere), (27, kValidI)]) ⟨cfirst13, cNumber, cNum, cAt, cOp, cObjectF, cLinkF, cWhere, cValidI, trivial⟩) hown (ls := fun i => [(2000013, cutL { fr := datF n a ++ [(7, .int .i64 (.sym (i : Int) 0 1000000)), (8, .str (nmT i))], hp := [(0, some (.recs .obj (dU a i)))], next := 1, sz := 155 }), (1000015, cutL { fr := datF n a ++ [(7, .int .i64 (.sym (i : Int) 0 1000000)), (9, .ptr 1 0)], hp := [(0, some (.recs .obj (dU a i))), (1, some (.cells [.ro .u32 [7, 8, 9], .ro .u32 [16777216], .ro .u8 [1], .ro .rel (datR a), .ro .rel [], .ro .sym (datS (nmT i))]))], next := 2, sz := 155 })]) (fun i => noSums (by kernel_rfl)) (fun hm i hi hj => ?_) 0 (fun hm => by first | exact Nat.zero_le _ | omega) (fun hm => trivial)
 rw [bdatA rest n a i]
 delta RQ IT
 have D := hm
 have hn := D.n8
 refine ⟨fun h => ?_, fun h => ?_⟩
 ·have h := of_decide_eq_true h
  have hlt : i < n := by omega
  have sz : (⟨#[102]⟩ : ByteArray).size + (itoaB (i : Int)).size ≤ 9223372036854775807 := by
   have := itoaB_size (i : Int)
   have e : (⟨#[102]⟩ : ByteArray).size = 1 := rfl
   omega
  have em : oAll [⟨⟨0, 0, 0, 0, 0⟩, nmT i, ByteArray.empty, false⟩, opL 1 (nilR RT.i64)] = ⟨[16777216], [1], [], [⟨nmT i, 2, 0, true⟩]⟩ := dat_mk (nm_ne (by omega))
  rw [em, dU_len]
  refine ⟨sz, fun _ => ⟨⟨fun g => ?_, fun g => ?_⟩, ⟨by show 2 ≤ 100000; omega, by unfold shortN; decide⟩, fun _ => ⟨by show 1 + 1 ≤ 137438953472; omega, fun _ => ⟨⟨rfl, rfl, rfl, rfl, rfl, rfl, rfl, rfl, rfl, rfl, rfl⟩, fun _ => ⟨by show i + 1 ≤ _; omega, fun _ => ⟨hlt, trivial, rfl, rfl, rfl, by omega, ⟨by omega, by omega⟩, (dU_succ a i).symm⟩⟩⟩⟩⟩⟩
  ·have g := of_decide_eq_true g
   have e : nmT i = mainT := by unfold nmT; rw [if_pos (by omega)]
   exact ⟨rfl, rfl, rfl, rfl, e.symm, rfl⟩
  ·have g := of_decide_eq_false g
   have e : nmT i = fT i := by unfold nmT; rw [if_neg (by omega)]
   exact ⟨rfl, rfl, rfl, rfl, e.symm, rfl⟩
 ·have h := of_decide_eq_false h
  have : i = n := by omega
  subst this
  exact ⟨rfl, rfl, rfl, rfl, rfl⟩
def HdatB (n : Nat) (a : Int) (i : Nat) : SState := { fr := [(0, .int .i64 (.sym (n : Int) 1 8)), (1, .int .i64 (.sym a (-1000) 1000)), (5, .bool (.lit true)), (6, .ro .obj (dU a n)), (10, .ptr 0 0), (12, .int .i64 (.sym i 0 1000000))], hp := [(0, some (.cells (imgV (linkI (dU a n)))))], next := 1, sz := 155 }
def XdatB (n : Nat) (a : Int) : SState := { fr := [(5, .bool (.lit true)), (6, .ro .obj (dU a n)), (10, .ptr 0 0)], hp := [(0, some (.cells (imgV (linkI (dU a n)))))], next := 1, sz := 155 }
def LdatB (n : Nat) (a : Int) : LSum := ⟨HdatB n a 0, fun k => k (.exit 2) (XdatB n a), Dat n a⟩
theorem bdatB (rest : List (Nat × SVal)) (n : Nat) (a : Int) (i : Nat) : (Tr.sat (rnd1 (env (G7 ++ rest) [(8, kfirst13), (14, kNumber), (25, kNum), (15, kAt), (17, kOp), (18, kObjectF), (10, kLinkF), (26, kWhere), (27, kValidI)]) (fun _ => True) (n) (HdatB n a) 2 (XdatB n a) i) (run (env (G7 ++ rest) [(8, kfirst13), (14, kNumber), (25, kNum), (15, kAt), (17, kOp), (18, kObjectF), (10, kLinkF), (26, kWhere), (27, kValidI)]) [] (loopN (bodyOf Tryd.f7) 1) (HdatB n a i) .leaf)) = (
 IT (decide ((↑i : Int) < (↑n : Int))) (RQ ((0 : Int) ≤ (3 : Int) * (↑i : Int) ∧ (3 : Int) * (↑i : Int) < (↑(List.length (linkI (dU a n)).data) : Int)) (RQ ((!!decide (List.getD (linkI (dU a n)).data (Int.toNat ((3 : Int) * (↑i : Int))) (RT.dflt RT.u32) = IntKind.wrap IntKind.u32 ((3 : Int) * (↑i : Int) + 2 + a))) = true → (0 : Int) ≤ (3 : Int) * (↑i : Int) + 1 ∧ (3 : Int) * (↑i : Int) + 1 < (↑(List.length (linkI (dU a n)).data) : Int)) (RQ ((!(!decide (List.getD (linkI (dU a n)).data (Int.toNat ((3 : Int) * (↑i : Int))) (RT.dflt RT.u32) = IntKind.wrap IntKind.u32 ((3 : Int) * (↑i : Int) + 2 + a)) || !decide (List.getD (linkI (dU a n)).data (Int.toNat ((3 : Int) * (↑i : Int) + 1)) (RT.dflt RT.u32) = 2048 + (↑i : Int)))) = true → (0 : Int) ≤ (3 : Int) * (↑i : Int) + 2 ∧ (3 : Int) * (↑i : Int) + 2 < (↑(List.length (linkI (dU a n)).data) : Int)) (RQ ((!(!decide (List.getD (linkI (dU a n)).data (Int.toNat ((3 : Int) * (↑i : Int))) (RT.dflt RT.u32) = IntKind.wrap IntKind.u32 ((3 : Int) * (↑i : Int) + 2 + a)) || !decide (List.getD (linkI (dU a n)).data (Int.toNat ((3 : Int) * (↑i : Int) + 1)) (RT.dflt RT.u32) = 2048 + (↑i : Int)) || !decide (List.getD (linkI (dU a n)).data (Int.toNat ((3 : Int) * (↑i : Int) + 2)) (RT.dflt RT.u32) = 9))) = true → 0 ≤ (↑i : Int) ∧ (↑i : Int) < (↑(List.length (linkI (dU a n)).drefs) : Int)) (IT (!decide (List.getD (linkI (dU a n)).data (Int.toNat ((3 : Int) * (↑i : Int))) (RT.dflt RT.u32) = IntKind.wrap IntKind.u32 ((3 : Int) * (↑i : Int) + 2 + a)) || !decide (List.getD (linkI (dU a n)).data (Int.toNat ((3 : Int) * (↑i : Int) + 1)) (RT.dflt RT.u32) = 2048 + (↑i : Int)) || !decide (List.getD (linkI (dU a n)).data (Int.toNat ((3 : Int) * (↑i : Int) + 2)) (RT.dflt RT.u32) = 9) || !decide (List.getD (linkI (dU a n)).drefs (Int.toNat (↑i : Int)) (RT.dflt RT.i64) = 3 * (↑i : Int) + 1)) False (i < n ∧ True ∧ (↑n : Int) = (↑n : Int) ∧ a = a ∧ true = true ∧ dU a n = dU a n ∧ (↑i : Int) + 1 = (↑(i + 1) : Int) ∧ (0 ≤ (↑(i + 1) : Int) ∧ (↑(i + 1) : Int) ≤ 1000000) ∧ (linkI (dU a n)).entry = (linkI (dU a n)).entry ∧ (linkI (dU a n)).data = (linkI (dU a n)).data ∧ (linkI (dU a n)).code = (linkI (dU a n)).code ∧ (linkI (dU a n)).drefs = (linkI (dU a n)).drefs ∧ (linkI (dU a n)).places = (linkI (dU a n)).places ∧ (linkI (dU a n)).starts = (linkI (dU a n)).starts)))))) (Nat.beq (2 : Nat) (2 : Nat) = true ∧ true = true ∧ dU a n = dU a n ∧ (linkI (dU a n)).entry = (linkI (dU a n)).entry ∧ (linkI (dU a n)).data = (linkI (dU a n)).data ∧ (linkI (dU a n)).code = (linkI (dU a n)).code ∧ (linkI (dU a n)).drefs = (linkI (dU a n)).drefs ∧ (linkI (dU a n)).places = (linkI (dU a n)).places ∧ (linkI (dU a n)).starts = (linkI (dU a n)).starts)) := by kernel_rfl
set_option maxHeartbeats 4000000 in
theorem ldatB (n : Nat) (a : Int) {W : World} {R own0 : Nat → Prop} {ρ0 : Nat → Option Value} (hown : HownOk (env (G7 ++ rest) [(8, kfirst13), (14, kNumber), (25, kNum), (15, kAt), (17, kOp), (18, kObjectF), (10, kLinkF), (26, kWhere), (27, kValidI)]) own0 ρ0) : LOk Tryd.prog (env (G7 ++ rest) [(8, kfirst13), (14, kNumber), (25, kNum), (15, kAt), (17, kOp), (18, kObjectF), (10, kLinkF), (26, kWhere), (27, kValidI)]) (ctx ea has) (G7 ++ rest) W R own0 ρ0 (loopN (bodyOf Tryd.f7) 1) (LdatB n a) := by
 refine loop1_ok (J := fun _ => True) (N := n) (H := HdatB n a) (X := XdatB n a) (env_ok (con := [(8, kfirst13), (14, kNumber), (25, kNum), (15, kAt), (17, kOp), (18, kObjectF), (10, kLinkF), (26, kWhere), (27, kValidI)]) ⟨cfirst13, cNumber, cNum, cAt, cOp, cObjectF, cLinkF, cWhere, cValidI, trivial⟩) hown (ls := fun i => []) (fun i => noSums (by kernel_rfl)) (fun hm i hi hj => ?_) 0 (fun hm => by first | exact Nat.zero_le _ | omega) (fun hm => trivial)
 rw [bdatB rest n a i]
 delta RQ IT
 have D := hm
 have hn := D.n8
 have hlo := D.lo
 have hhi := D.hi
 obtain ⟨e1, c1, d1, r1, _⟩ := du_img D
 have hl := dX_len a n
 have hr := rX_len n
 refine ⟨fun h => ?_, fun h => ?_⟩
 ·have h := of_decide_eq_true h
  have hlt : i < n := by omega
  obtain ⟨x0, x1, x2⟩ := dX_get a n i hlt
  have y0 := rX_get n i hlt
  have p0 : (3 * (i : Int)).toNat = 3 * i := by omega
  have p1 : (3 * (i : Int) + 1).toNat = 3 * i + 1 := by omega
  have p2 : (3 * (i : Int) + 2).toNat = 3 * i + 2 := by omega
  have u0 : u32W (3 * i + 2 + u32W a) = IntKind.u32.wrap (3 * (i : Int) + 2 + a) := by unfold u32W; rw [IntKind.wrap_u32, IntKind.wrap_u32, IntKind.wrap_u32]; omega
  have u1 : u32W (2048 + i + u32W 0) = 2048 + (i : Int) := by unfold u32W; rw [IntKind.wrap_u32, IntKind.wrap_u32]; omega
  have x0' : (dX a n).getD (3 * i) RT.u32.dflt = IntKind.u32.wrap (3 * (i : Int) + 2 + a) := x0.trans u0
  have x1' : (dX a n).getD (3 * i + 1) RT.u32.dflt = 2048 + (i : Int) := x1.trans u1
  have x2' : (dX a n).getD (3 * i + 2) RT.u32.dflt = 9 := x2
  have y0' : (rX n).getD ((i : Int)).toNat RT.i64.dflt = 3 * (i : Int) + 1 := by rw [Int.toNat_natCast]; exact y0
  rw [e1, d1, r1, p0, p1, p2, x0', x1', x2', y0', decide_eq_true rfl, decide_eq_true rfl, decide_eq_true rfl, decide_eq_true rfl, hl, hr]
  exact ⟨⟨by omega, by omega⟩, fun _ => ⟨fun _ => ⟨by omega, by omega⟩, fun _ => ⟨fun _ => ⟨by omega, by omega⟩, fun _ => ⟨fun _ => ⟨by omega, by omega⟩, fun _ => ⟨fun g => absurd g (by decide), fun _ => ⟨hlt, trivial, rfl, rfl, rfl, rfl, by omega, ⟨by omega, by omega⟩, rfl, rfl, rfl, rfl, rfl, rfl⟩⟩⟩⟩⟩⟩
 ·exact ⟨rfl, rfl, rfl, rfl, rfl, rfl, rfl, rfl, rfl⟩
def aN (x : Int) : Nat := (x % 8 + 1).toNat
def aA (x : Int) : Int := x % 2001 - 1000
def kLinkData : List SVal → Nat → Acc ORes := fun a n => match a with | [.int .i64 n', .int .i64 a'] => .ret ({ v := .bool (.lit true) }) | _ => .fail "LinkData"
theorem argLinkData (n' a' : SI) : (all (subL tAtN none' [] deep [.int .i64 n', .int .i64 a'] [.int .i64 (.full n'.val), .int .i64 (.full a'.val)])) = (
 SI.val n' = SI.val n' ∧ SI.val a' = SI.val a') := by kernel_rfl
theorem runLinkData (rest : List (Nat × SVal)) (n' : Int) (a' : Int) : (Tr.sat (plainQ (.bool (.lit true))) (run (env (G7 ++ rest) [(8, kfirst13), (14, kNumber), (25, kNum), (15, kAt), (17, kOp), (18, kObjectF), (10, kLinkF), (26, kWhere), (27, kValidI)]) [(8, LdatA (aN n') (aA a')), (21, LdatB (aN n') (aA a')), (2000017, cutL { fr := [(0, .int .i64 (.sym (aN n' : Int) 1 8)), (1, .int .i64 (.sym (aA a') (-1000) 1000)), (5, .bool (.lit true)), (6, .ro .obj (dU (aA a') (aN n')))], hp := [], next := 0, sz := 155 }), (1000017, cutL { fr := [(0, .int .i64 (.sym (aN n' : Int) 1 8)), (1, .int .i64 (.sym (aA a') (-1000) 1000)), (5, .bool (.lit true)), (6, .ro .obj (dU (aA a') (aN n'))), (10, .ptr 0 0), (11, .err .fine)], hp := [(0, some (.cells (imgV (linkI (dU (aA a') (aN n'))))))], next := 1, sz := 155 })] (bodyOf Tryd.f7) (start [.int .i64 (.full n'), .int .i64 (.full a')] 155) (ends (env (G7 ++ rest) [(8, kfirst13), (14, kNumber), (25, kNum), (15, kAt), (17, kOp), (18, kObjectF), (10, kLinkF), (26, kWhere), (27, kValidI)]) Tryd.f7.results.toList))) = (
 RQ ((0 : Int) < (8 : Int)) (RQ ((0 : Int) < (2001 : Int)) ((RQ (Dat (aN n') (aA a') ∧ IntKind.wrap IntKind.i64 (n' % 8 + (1 : Int)) = (↑(aN n') : Int) ∧ ((1 : Int) ≤ (↑(aN n') : Int) ∧ (↑(aN n') : Int) ≤ 8) ∧ IntKind.wrap IntKind.i64 (a' % 2001 - (1000 : Int)) = aA a' ∧ ((-1000 : Int) ≤ aA a' ∧ aA a' ≤ 1000) ∧ true = true ∧ (0 : Int) = (↑(0 : Nat) : Int) ∧ @List.nil (RT.ty RT.obj) = dU (aA a') (0 : Nat)) ((↑(aN n') : Int) = (↑(aN n') : Int) ∧ aA a' = aA a' ∧ true = true ∧ dU (aA a') (aN n') = dU (aA a') (aN n'))) ∧ RQ ((↑(aN n') : Int) = (↑(aN n') : Int) ∧ aA a' = aA a' ∧ true = true ∧ dU (aA a') (aN n') = dU (aA a') (aN n') ∧ laidE (dU (aA a') (aN n')) = FErr.fine ∧ (linkI (dU (aA a') (aN n'))).entry = (linkI (dU (aA a') (aN n'))).entry ∧ (linkI (dU (aA a') (aN n'))).data = (linkI (dU (aA a') (aN n'))).data ∧ (linkI (dU (aA a') (aN n'))).code = (linkI (dU (aA a') (aN n'))).code ∧ (linkI (dU (aA a') (aN n'))).drefs = (linkI (dU (aA a') (aN n'))).drefs ∧ (linkI (dU (aA a') (aN n'))).places = (linkI (dU (aA a') (aN n'))).places ∧ (linkI (dU (aA a') (aN n'))).starts = (linkI (dU (aA a') (aN n'))).starts) (IT (!!FErr.isErr FErr.fine || !decide ((↑(List.length (linkI (dU (aA a') (aN n'))).data) : Int) = 3 * (↑(aN n') : Int)) || !decide ((↑(List.length (linkI (dU (aA a') (aN n'))).drefs) : Int) = (↑(aN n') : Int)) || !decide ((↑(List.length (linkI (dU (aA a') (aN n'))).code) : Int) = (↑(aN n') : Int))) (false = true) (RQ (Dat (aN n') (aA a') ∧ (↑(aN n') : Int) = (↑(aN n') : Int) ∧ aA a' = aA a' ∧ true = true ∧ dU (aA a') (aN n') = dU (aA a') (aN n') ∧ (0 : Int) = (↑(0 : Nat) : Int) ∧ (linkI (dU (aA a') (aN n'))).entry = (linkI (dU (aA a') (aN n'))).entry ∧ (linkI (dU (aA a') (aN n'))).data = (linkI (dU (aA a') (aN n'))).data ∧ (linkI (dU (aA a') (aN n'))).code = (linkI (dU (aA a') (aN n'))).code ∧ (linkI (dU (aA a') (aN n'))).drefs = (linkI (dU (aA a') (aN n'))).drefs ∧ (linkI (dU (aA a') (aN n'))).places = (linkI (dU (aA a') (aN n'))).places ∧ (linkI (dU (aA a') (aN n'))).starts = (linkI (dU (aA a') (aN n'))).starts) (RQ ((!FErr.isErr (whE (dU (aA a') (aN n')) (ByteArray.mk #[(109 : UInt8), (97 : UInt8), (105 : UInt8), (110 : UInt8)])) && decide (whV (dU (aA a') (aN n')) (ByteArray.mk #[(109 : UInt8), (97 : UInt8), (105 : UInt8), (110 : UInt8)]) = 2048)) = true → List.length (linkI (dU (aA a') (aN n'))).code ≤ 1000000) ((!FErr.isErr (whE (dU (aA a') (aN n')) (ByteArray.mk #[(109 : UInt8), (97 : UInt8), (105 : UInt8), (110 : UInt8)])) && decide (whV (dU (aA a') (aN n')) (ByteArray.mk #[(109 : UInt8), (97 : UInt8), (105 : UInt8), (110 : UInt8)]) = 2048) && decide (vImg (linkI (dU (aA a') (aN n'))).entry (List.length (linkI (dU (aA a') (aN n'))).data) (List.length (linkI (dU (aA a') (aN n'))).code) = 0)) = true))))))) := by kernel_rfl
set_option maxHeartbeats 4000000 in
theorem cLinkData : Con ea has (G7 ++ rest) 7 kLinkData := by
 refine plain_mkB Tryd.func7 155 (con := [(8, kfirst13), (14, kNumber), (25, kNum), (15, kAt), (17, kOp), (18, kObjectF), (10, kLinkF), (26, kWhere), (27, kValidI)]) ⟨cfirst13, cNumber, cNum, cAt, cOp, cObjectF, cLinkF, cWhere, cValidI, trivial⟩ (fun hA hr hv => ?_) (by kernel_rfl) (by kernel_rfl) Tryd.ntmps7
 unfold kLinkData at hr; split at hr
 ·rename_i n' a'
  have := ret_ok hr; subst this
  refine ⟨_, [(8, LdatA (aN n'.val) (aA a'.val)), (21, LdatB (aN n'.val) (aA a'.val)), (2000017, cutL { fr := [(0, .int .i64 (.sym (aN n'.val : Int) 1 8)), (1, .int .i64 (.sym (aA a'.val) (-1000) 1000)), (5, .bool (.lit true)), (6, .ro .obj (dU (aA a'.val) (aN n'.val)))], hp := [], next := 0, sz := 155 }), (1000017, cutL { fr := [(0, .int .i64 (.sym (aN n'.val : Int) 1 8)), (1, .int .i64 (.sym (aA a'.val) (-1000) 1000)), (5, .bool (.lit true)), (6, .ro .obj (dU (aA a'.val) (aN n'.val))), (10, .ptr 0 0), (11, .err .fine)], hp := [(0, some (.cells (imgV (linkI (dU (aA a'.val) (aN n'.val))))))], next := 1, sz := 155 })], rfl, rfl, .of (argLinkData n' a') (by simp), rfl, (fun W R ρ0 own0 hown => hlN (bs := [loopN (bodyOf Tryd.f7) 0, loopN (bodyOf Tryd.f7) 1]) (by kernel_rfl) (fun b hb => by simp only [List.mem_cons, List.not_mem_nil, or_false] at hb; rcases hb with rfl | rfl; exact ⟨_, rfl, ldatA (aN n'.val) (aA a'.val) hown⟩; exact ⟨_, rfl, ldatB (aN n'.val) (aA a'.val) hown⟩)), .of (runLinkData rest n'.val a'.val) ?_⟩
  delta RQ IT
  clear hr
  have hN : n'.val % 8 + 1 = ((aN n'.val : Nat) : Int) ∧ 1 ≤ aN n'.val ∧ aN n'.val ≤ 8 := by unfold aN; omega
  have hA : -1000 ≤ aA a'.val ∧ aA a'.val ≤ 1000 := by unfold aA; omega
  have w1 : IntKind.i64.wrap (n'.val % 8 + 1) = ((aN n'.val : Nat) : Int) := by rw [hN.1, IntKind.wrap_i64]; omega
  have e2 : a'.val % 2001 - 1000 = aA a'.val := rfl
  have w2 : IntKind.i64.wrap (a'.val % 2001 - 1000) = aA a'.val := by rw [e2, IntKind.wrap_i64]; omega
  rw [w1, w2]
  have D : Dat (aN n'.val) (aA a'.val) := ⟨by omega, by omega, by omega, by omega⟩
  generalize aA a'.val = a at *
  generalize aN n'.val = n at *
  obtain ⟨e1, c1, d1, r1, n1, m1, m2⟩ := du_img D
  have m1 : whE (dU a n) ⟨#[109, 97, 105, 110]⟩ = .fine := m1
  have m2 : whV (dU a n) ⟨#[109, 97, 105, 110]⟩ = _ := m2
  have hl := dX_len a n
  have hr := rX_len n
  have hf := du_laid D
  obtain ⟨_, h2, h8⟩ := hN
  have q1 : ((3 * n : Nat) : Int) = 3 * (n : Int) := by omega
  have q2 : vImg 2048 (3 * n) n = 0 := by unfold vImg; rw [if_neg (by omega), if_neg (by omega)]
  rw [m1, m2, e1, c1, d1, r1, n1, hl, hr, q1, q2, decide_eq_true rfl, decide_eq_true rfl, decide_eq_true rfl, decide_eq_true rfl]
  exact ⟨by omega, fun _ => ⟨by omega, fun _ => ⟨⟨⟨D, rfl, ⟨by omega, by omega⟩, rfl, hA, rfl, rfl, rfl⟩, fun _ => ⟨rfl, rfl, rfl, rfl⟩⟩, ⟨rfl, rfl, rfl, rfl, hf, rfl, rfl, rfl, rfl, rfl, rfl⟩, fun _ => ⟨fun g => absurd g (by decide), fun _ => ⟨⟨D, rfl, rfl, rfl, rfl, rfl, rfl, rfl, rfl, rfl, rfl, rfl⟩, fun _ => ⟨fun _ => by omega, fun _ => rfl⟩⟩⟩⟩⟩⟩
 ·cases hr
end
end Go.Proofs.YtacmmedhjebfjaaDoor
set_option linter.unusedVariables false
set_option linter.unusedSimpArgs false
set_option maxRecDepth 100000
namespace Go.Proofs.YtacmmedhjebfjaaDoor
open Go.ChangeShapes Go.RowKit Go.Sy
theorem own : ownKnob Tryd.prog.godebug = none := by kernel_rfl
theorem laidOut : laidOutB Tryd.prog = true := by kernel_rfl
section
variable {W : World} {H : Type} {enc : TypeId × Value → H} {C : Ctx} {R : Nat → Prop} {ρ : Nat → Option Value} {base : Nat} {sp : Nat → Bool} {held : Bool} {r : Reach} {b0 : Nat}
theorem open_num {v : Value} {d : DataW H} {ps : List MemPlace} (hv : Value.okWide Tryd.prog W r b0 3 v) (h : DataW.Trod enc Tryd.prog W base sp held 3 v d ps) :
  ∃ n : Int, v = .int .i64 n ∧ InI .i64 (.full n) := by
 obtain ⟨n, rfl, _, _, hw⟩ := open_int Tryd.underlying3 hv h
 exact ⟨n, rfl, wf_in hw⟩
end
def txt : DataW Unit → List UInt8
 | .iface _ (.ptr (.agg [.lit (.string s)])) => s
 | _ => []
def L7 : List Snt := [⟨"facade/api.ErrShape", 3, 102, txt Rows.laid_facade_api_ErrShape⟩, ⟨"facade/api.ErrRange", 7, 103, txt Rows.laid_facade_api_ErrRange⟩, ⟨"facade/api.ErrMany", 1, 104, txt Rows.laid_facade_api_ErrMany⟩,
 ⟨"facade/api.ErrOp", 6, 105, txt Rows.laid_facade_api_ErrOp⟩, ⟨"facade/api.ErrTwice", 2, 106, txt Rows.laid_facade_api_ErrTwice⟩, ⟨"facade/api.ErrNone", 0, 107, txt Rows.laid_facade_api_ErrNone⟩, ⟨"facade/api.ErrMap", 4, 109, txt Rows.laid_facade_api_ErrMap⟩]
abbrev nmE : String := "*errors.errorString"
theorem star : "*" ++ "errors.errorString" = nmE := by decide
theorem err_types : ErrTypes Tryd.prog 31 193 214 9 nmE where
 hi := ⟨_, Tryd.underlying31⟩
 row := fun u h => typeName_ptr_named (nm := "errors.errorString") (by rw [star]; kernel_rfl) (by kernel_rfl) (by decide) u (by rw [star]; exact h)
 hp := Tryd.underlying193
 he := ⟨_, Tryd.underlying214, rfl, rfl⟩
 hs := Tryd.underlying9
 ce := by kernel_rfl
 cs := by kernel_rfl
theorem named_of {L : List Snt} (h : (L.all fun x => Tryd.prog.globalNamed x.name == some x.g && (Tryd.prog.globals[x.g]?).map (·.type) == some 31) = true) : ∀ x ∈ L, Tryd.prog.globalNamed x.name = some x.g ∧ (Tryd.prog.globals[x.g]?).map (·.type) = some 31 := fun x hx => by
 have := List.all_eq_true.1 h x hx
 simpa using this
end Go.Proofs.YtacmmedhjebfjaaDoor
