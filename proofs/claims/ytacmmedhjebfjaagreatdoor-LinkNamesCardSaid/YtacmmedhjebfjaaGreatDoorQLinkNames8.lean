/- Contracts that the proofs use. -/
import Derived.Test.YtacmmedhjebfjaaGreatDoorQLinkNames7
import Derived.Lib.ItoaLen
import Derived.Test.YtacmmedhjebfjaaGreatDoorRows
set_option linter.unusedVariables false
set_option linter.unusedSimpArgs false
set_option linter.unusedSectionVars false
namespace Go.Proofs.YtacmmedhjebfjaaGreatDoor
open Go.RowKit Go.Sy Go.Fac
structure Pow (ea : Ear) : Prop where
 pow : ∃ T s, ea.fix 16 = some (.cells (Lib.pow10Tab.map fun z => Value.int .u64 z).toArray T s)
theorem Trans.grown {C : Ctx} {gl : List (Nat × SVal)} {W : World} {R : Nat → Prop} {ρ : Nat → Option Value} {h : Nat → Option Cont} (M : Mem C gl W R ρ h) {k : Nat} {os : Array Obj} :
  Trans C gl W R ρ h [] (Sort.grow (W.drewN k) os) R ρ :=
 Trans.gen M rfl rfl rfl (by simp [Sort.grow, World.drewN]) (fun _ _ h => h) (fun _ _ h => .inl h)
  (fun j hj _ => by show (W.heap ++ os)[j]? = W.heap[j]?; exact Array.getElem?_append_left hj)
  (fun _ r c hf => by cases hf) (fun r r' c c' hf => by cases hf)
section
variable {ea : Ear} {has : Int → Prop} {gl : List (Nat × SVal)} [hpw : Nonempty (Pow ea)]
def itoaB (n : Int) : ByteArray := if -9223372036854775808 ≤ n ∧ n ≤ 9223372036854775807 then ⟨(Lib.itoa n).toArray⟩ else ByteArray.empty
theorem itoaB_of {n : Int} (h0 : -9223372036854775808 ≤ n) (h1 : n ≤ 9223372036854775807) : itoaB n = ⟨(Lib.itoa n).toArray⟩ := if_pos ⟨h0, h1⟩
theorem itoaB_size (n : Int) : (itoaB n).size ≤ 21 := by
 unfold itoaB; split
 ·rename_i h; exact Lib.itoa_length_le _ h.1 h.2
 ·decide
def kItoa : List SVal → Nat → Acc ORes := fun a n => match a with | [.int .i64 x] => .ret { v := .str (itoaB x.val) } | _ => .fail "Itoa"
theorem cItoa : Con ea has gl 17 kItoa where
 call := enters Tryz.func17 (c := bodyOf Tryz.f17) (by kernel_rfl) (by kernel_rfl)
 does {W R ρ h args vs next r l l'} M hA hr hv hn := by
  unfold kItoa at hr; split at hr
  ·rename_i x
   have := ret_ok hr; subst this
   have hi := DenA.i0 hA
   obtain ⟨⟨T, s, hf⟩⟩ := hpw
   have tab : Lib.TabIs Tryz.prog W "internal/strconv.uint64pow10" .u64 Lib.pow10Tab := by
    unfold Lib.TabIs World.var?
    rw [show Tryz.prog.globalNamed "internal/strconv.uint64pow10" = some 16 from by kernel_rfl, Option.bind_some, (M.base.fix _ _ hf).2]
   cases hA with | cons _ v _ us h1 h2 => ?_
   cases h2
   obtain ⟨rfl, _⟩ := h1.int_inv
   exact (Tryz.strconv_Itoa x.val hi.lo hi.hi W tab).mono fun e w' ⟨he, k, os, hw⟩ => ⟨_, R, ρ, he, hw ▸ Trans.grown M, itoaB_of hi.lo hi.hi ▸ .str _ (Nat.le_trans (itoaB_size _) (by decide))⟩
  ·cases hr
def kNum : List SVal → Nat → Acc ORes := fun a n => match a with | [.int .i64 n] => .ret ({ v := .str (itoaB n.val) }) | _ => .fail "Num"
theorem argNum (n : SI) : (all (subL tAtN none' [] deep [.int .i64 n] [.int .i64 (.full n.val)])) = (
 SI.val n = SI.val n) := by kernel_rfl
theorem runNum (gl : List (Nat × SVal)) (n : Int) : (Tr.sat (plainQ (.str (itoaB n))) (run (env gl [(17, kItoa)]) [] (bodyOf Tryz.f8) (start [.int .i64 (.full n)] 5) (ends (env gl [(17, kItoa)]) Tryz.f8.results.toList))) = (
 itoaB n = itoaB n) := by kernel_rfl
set_option maxHeartbeats 4000000 in
theorem cNum : Con ea has gl 8 kNum := by
 refine plain_mkB Tryz.func8 5 (con := [(17, kItoa)]) ⟨cItoa, trivial⟩ (fun hA hr hv => ?_) (by kernel_rfl) (by kernel_rfl) Tryz.ntmps8
 unfold kNum at hr; split at hr
 ·rename_i n
  have := ret_ok hr; subst this
  refine ⟨_, [], rfl, rfl, .of (argNum n) (by simp), rfl, (fun W R ρ0 own0 hown => noSums (by kernel_rfl)), .of (runNum gl n.val) ?_⟩
  clear hr
  rfl
 ·cases hr
end
end Go.Proofs.YtacmmedhjebfjaaGreatDoor
set_option linter.unusedVariables false
set_option linter.unusedSimpArgs false
namespace Go.Proofs.YtacmmedhjebfjaaGreatDoor
open Go.RowKit Go.Sy Go.Fac
def Uniq (l : List Ob) : Prop := ∀ o s o' s' : Nat, o < l.length → o' < l.length → s < (obN l o).syms.length → s' < (obN l o').syms.length → expS (syO l o s) → expS (syO l o' s') → (syO l o s).name = (syO l o' s').name → o = o' ∧ s = s'
theorem nmS_ok {l : List Ob} (U : Uniq l) {i : Nat} (hi : i < l.length) {g : Glb} (h0 : NmI l i 0 g) : ∀ j, j ≤ (obN l i).syms.length → (nmS i (obN l i).syms g j).1 = .fine
 | 0, _ => rfl
 | j + 1, hj => by
  have ih := nmS_ok U hi h0 j (by omega)
  have I := nmS_inv h0 j (by omega) ih
  rw [nmS, if_neg (by rw [ih]; simp [FErr.isErr])]
  show (nmStep i j (syO l i j) _).1 = .fine
  unfold nmStep
  by_cases hx : expB (syO l i j) = false
  ·rw [if_pos hx]
  ·rw [if_neg hx]
   have hx : expS (syO l i j) := expB_iff.1 (by simpa using hx)
   by_cases hh : glH (nmS i (obN l i).syms g j).2 (syO l i j).name = true
   ·obtain ⟨o, s, _, h2, h3, h4, h5⟩ := I.fnd _ hh
    obtain ⟨rfl, rfl⟩ := U o s i j (by omega) hi h3 (by omega) h5 hx h4
    omega
   ·rw [if_neg hh]
theorem nmO_ok {l : List Ob} (U : Uniq l) (hv : ∀ i, i < l.length → vBE (obN l i) = .fine) : ∀ i, i ≤ l.length → (nmO l i).1 = .fine
 | 0, _ => rfl
 | i + 1, h => by
  have ih := nmO_ok U hv i (by omega)
  rw [nmO, if_neg (by rw [ih]; simp [FErr.isErr]), if_neg (by rw [hv i (by omega)]; simp [FErr.isErr])]
  exact nmS_ok U (by omega) (nmO_inv l i ih).1 _ (Nat.le_refl _)
theorem glG_at {l : List Ob} (hf : (nmO l l.length).1 = .fine) {o s : Nat} (ho : o < l.length) (hs : s < (obN l o).syms.length) (hx : expS (syO l o s)) : glH (nmG l) (syO l o s).name = true ∧ glG (nmG l) (syO l o s).name = ((o : Int), (s : Int)) :=
 (nmO_inv l _ hf).1.all o s (.inl ho) hs hx
theorem plS_two {l : List Ob} {g : Glb} (G : NmG l g) : ∀ n, n ≤ oBs l l.length → plN l g n ≤ 2 * n
 | 0, _ => Int.le_refl _
 | n + 1, h => by
  have ih := plS_two G n (by omega)
  have hc := itF_size l g (show n < oBs l l.length by omega)
  show plS (itF l g) (loF l g) (n + 1) ≤ _
  have ih : plS (itF l g) (loF l g) n ≤ 2 * n := ih
  rw [plS]
  split
  ·rename_i hlo
   obtain ⟨o, w, I⟩ := itAt (l := l) (show n < oBs l l.length by omega)
   have := I.one G (lo_br hlo)
   omega
  ·omega
theorem sumS_two (l : List Ob) (g : Glb) : sumS (itF l g) (itF l g).length ≤ 2 * (oBs l l.length : Nat) := by
 have h := sumS_le l g (itF l g).length (by rw [brO_len]; exact Nat.le_refl _)
 have e : (itF l g).length = oBs l l.length := brO_len l g _
 rw [e] at h ⊢; exact h.2
structure Lks (l : List Ob) : Prop where
 few : l.length ≤ 16
 val : ∀ i, i < l.length → vBE (obN l i) = .fine
 uniq : Uniq l
 abs : ∀ i s, i < l.length → s < (obN l i).syms.length → (syO l i s).in_ = 3 → ∃ o t, o < l.length ∧ t < (obN l o).syms.length ∧ expS (syO l o t) ∧ (syO l o t).name = (syO l i s).name
 jump : ∀ i j, i < l.length → j < (obN l i).crels.length → jumpsB (obN l i).code (obN l i).map (relN l i j).at_ (relN l i j).kind = true →
  ∃ o t, o < l.length ∧ t < (obN l o).syms.length ∧ (syO l o t).in_ ≠ 1 ∧ realM l (nmG l) i (relN l i j).sym = (((o : Nat) : Int), ((t : Nat) : Int))
 main : ∃ o t, o < l.length ∧ t < (obN l o).syms.length ∧ expS (syO l o t) ∧ (syO l o t).name = mainT ∧ (syO l o t).in_ = 2
theorem Lks.names {l : List Ob} (L : Lks l) : namesE l = .fine ∧ (nmO l l.length).1 = .fine ∧ NmG l (nmG l) := by
 have hf := nmO_ok L.uniq L.val l.length (Nat.le_refl _)
 have h2 : idxM (noneO l (nmG l)) l.length = l.length := idxM_none fun i hi => by
  unfold noneO
  rw [decide_eq_false_iff_not, Decidable.not_not]
  refine idxM_none fun s hs => ?_
  unfold noneB
  by_cases h3 : (syO l i s).in_ = 3
  ·obtain ⟨o, t, h4, h5, h6, h7⟩ := L.abs i s hi hs h3
   have := (glG_at hf h4 h5 h6).1
   rw [h7] at this
   rw [this]; simp
  ·rw [decide_eq_false h3]; rfl
 have h3 : idxM (toO l (nmG l)) l.length = l.length := idxM_none fun i hi => by
  unfold toO
  rw [decide_eq_false_iff_not, Decidable.not_not]
  refine idxM_none fun j hj => ?_
  unfold toB
  by_cases hJ : jumpsB (obN l i).code (obN l i).map (relN l i j).at_ (relN l i j).kind = true
  ·obtain ⟨o, t, _, _, h5, h6⟩ := L.jump i j hi hj hJ
   rw [hJ, h6]
   simp only [symAt_nat]
   rw [decide_eq_false h5]; rfl
  ·rw [show jumpsB (obN l i).code (obN l i).map (relN l i j).at_ (relN l i j).kind = false by simpa using hJ]; rfl
 have h4 : noMain l (nmG l) = false := by
  obtain ⟨o, t, m1, m2, m3, m4, m5⟩ := L.main
  obtain ⟨g1, g2⟩ := glG_at hf m1 m2 m3
  rw [m4] at g1 g2
  unfold noMain
  rw [g1, g2]
  simp only [symAt_nat, m5]; rfl
 refine ⟨?_, hf, nmG_ok L.few hf h2⟩
 unfold namesE
 rw [if_neg (by rw [hf]; simp [FErr.isErr]), if_neg (by rw [h2]; simp), if_neg (by rw [h3]; simp), if_neg (by rw [h4]; simp)]
theorem Lks.ok {l : List Ob} (L : Lks l) (hd : oDn l l.length ≤ 2048) (hw : oBs l l.length ≤ 1024) : laidE l = .fine := by
 obtain ⟨h1, _, G⟩ := L.names
 have hs := sumS_two l (nmG l)
 have e : (itF l (nmG l)).length = oBs l l.length := brO_len l (nmG l) _
 have hp := plS_two G (oBs l l.length) (Nat.le_refl _)
 have hm : manyL l (nmG l) = false := by
  unfold manyL
  rw [Bool.or_eq_false_iff, decide_eq_false_iff_not, decide_eq_false_iff_not]; omega
 have hp' : plS (itF l (nmG l)) (rlx (itF l (nmG l))) (itF l (nmG l)).length ≤ 2048 := by
  rw [e]; exact Int.le_trans hp (by omega)
 unfold laidE layE
 rw [if_neg (by have := L.few; omega), h1, if_neg (by simp [FErr.isErr]), if_neg (by rw [hm]; simp), if_neg (by omega)]
theorem oSt_fold (ls : List Ln) : ∀ i, i ≤ ls.length → oSt ls i = (ls.take i).foldl (fun s x => oStep x s) ⟨[], [], [], []⟩
 | 0, _ => rfl
 | i + 1, h => by
  rw [oSt, oSt_fold ls i (by omega), take_get1 ls RT.line.dflt (show i < ls.length by omega), List.foldl_append]; rfl
theorem oAll_fold (ls : List Ln) : oAll ls = ls.foldl (fun s x => oStep x s) ⟨[], [], [], []⟩ := by
 rw [oAll, oSt_fold ls _ (Nat.le_refl _), List.take_length]
end Go.Proofs.YtacmmedhjebfjaaGreatDoor
set_option linter.unusedVariables false
set_option linter.unusedSimpArgs false
namespace Go.Proofs.YtacmmedhjebfjaaGreatDoor
open Go.RowKit Go.Sy Go.Fac
end Go.Proofs.YtacmmedhjebfjaaGreatDoor
set_option linter.unusedVariables false
set_option linter.unusedSimpArgs false
namespace Go.Proofs.YtacmmedhjebfjaaGreatDoor
open Go.RowKit Go.Sy Go.Fac
def fT (k : Nat) : ByteArray := ⟨#[102]⟩ ++ itoaB k
theorem all2 {n : Nat} {f : Nat → Nat → Bool} (h : ((List.range n).all fun j => (List.range n).all fun k => f j k) = true) {j k : Nat} (hj : j < n) (hk : k < n) : f j k = true :=
 List.all_eq_true.1 (List.all_eq_true.1 h j (List.mem_range.2 hj)) k (List.mem_range.2 hk)
theorem fold_at {a : ByteArray} (h : a ≠ ByteArray.empty) : oStep ⟨⟨0, 0, 0, 0, 0⟩, a, ByteArray.empty, false⟩ (⟨[], [], [], []⟩ : OS) = ⟨[], [], [], [⟨a, 2, 0, true⟩]⟩ := by
 unfold oStep
 rw [if_pos h]; rfl
end Go.Proofs.YtacmmedhjebfjaaGreatDoor
set_option linter.unusedVariables false
set_option linter.unusedSimpArgs false
namespace Go.Proofs.YtacmmedhjebfjaaGreatDoor
open Go.RowKit Go.Sy Go.Fac
def G9 : List (Nat × SVal) := [(5, .rop [.err (.bare 101)]), (8, .rop [.err (.bare 108)]), (9, .rop [.err (.bare 110)]), (10, .rop [.err (.bare 111)]), (11, .rop [.err (.bare 112)]), (12, .rop [.err (.bare 113)]), (13, .rop [.err (.bare 114)]), (14, .rop [.err (.bare 115)]), (15, .rop [.err (.bare 116)])]
section
variable {ea : Ear} {has : Int → Prop} {rest : List (Nat × SVal)}
def kAlike : List SVal → Nat → Acc ORes := fun a n => match a with | [.err a, .err b] => .ret ({ v := .bool (.sym (decide (a = b))), vc := some (b.isPlaced = false) }) | _ => .fail "Alike"
theorem argAlike (a b : FErr) : (all (subL tAtN none' [] deep [.err a, .err b] [.err a, .err b])) = (
 a = a ∧ b = b) := by kernel_rfl
theorem runAlike (rest : List (Nat × SVal)) (a : FErr) (b : FErr) : (Tr.sat (plainQ (.bool (.sym (decide (a = b))))) (run (env (G7 ++ (G9 ++ rest)) []) [] (bodyOf Tryz.f51) (start [.err a, .err b] 20) (ends (env (G7 ++ (G9 ++ rest)) []) Tryz.f51.results.toList))) = (
 IT (!FErr.isErr a || !FErr.isErr b) ((!FErr.isErr a && !FErr.isErr b) = decide (a = b)) (RQ ((FErr.isErr a = true ∧ FErr.isErr b = true) ∧ (FErr.isPlaced a = false ∨ FErr.isPlaced b = false)) (decide (a = b) = decide (a = b)))) := by kernel_rfl
set_option maxHeartbeats 4000000 in
theorem cAlike : Con ea has (G7 ++ (G9 ++ rest)) 51 kAlike := by
 refine plain_mkB Tryz.func51 20 (con := []) trivial (fun hA hr hv => ?_) (by kernel_rfl) (by kernel_rfl) Tryz.ntmps51
 unfold kAlike at hr; split at hr
 ·rename_i a b
  have := ret_ok hr; subst this
  replace hv := hv _ rfl
  refine ⟨_, [], rfl, rfl, .of (argAlike a b) (by simp), rfl, (fun W R ρ0 own0 hown => noSums (by kernel_rfl)), .of (runAlike rest a b) ?_⟩
  delta RQ IT
  clear hr
  refine ⟨fun h => ?_, fun h => ?_⟩
  ·cases a <;> cases b <;> simp [FErr.isErr] at h ⊢
  ·have : a.isErr = true ∧ b.isErr = true := by
    cases ha : a.isErr <;> cases hb : b.isErr <;> simp [ha, hb] at h ⊢
   exact ⟨⟨this, .inr hv⟩, fun _ => rfl⟩
 ·cases hr
def sentL : List FErr := [.bare 101, .bare 102, .bare 103, .bare 104, .bare 105, .bare 106, .bare 107, .bare 108, .bare 109, .bare 110, .bare 111, .bare 112, .bare 113, .bare 114, .bare 115, .bare 116]
def ksentinels : List SVal → Nat → Acc ORes := fun a n => match a with | [] => .ret ({ v := .ro .err sentL }) | _ => .fail "sentinels"
theorem argsentinels  : (all (subL tAtN none' [] deep [] [])) = (
 True) := by kernel_rfl
theorem runsentinels (rest : List (Nat × SVal)) : (Tr.sat (plainQ (.ro .err sentL)) (run (env (G7 ++ (G9 ++ rest)) []) [] (bodyOf Tryz.f50) (start [] 18) (ends (env (G7 ++ (G9 ++ rest)) []) Tryz.f50.results.toList))) = (
 [FErr.bare (101 : Int), FErr.bare (102 : Int), FErr.bare (103 : Int), FErr.bare (104 : Int), FErr.bare (105 : Int), FErr.bare (106 : Int), FErr.bare (107 : Int), FErr.bare (108 : Int), FErr.bare (109 : Int), FErr.bare (110 : Int), FErr.bare (111 : Int), FErr.bare (112 : Int), FErr.bare (113 : Int), FErr.bare (114 : Int), FErr.bare (115 : Int), FErr.bare (116 : Int)] = sentL) := by kernel_rfl
set_option maxHeartbeats 4000000 in
theorem csentinels : Con ea has (G7 ++ (G9 ++ rest)) 50 ksentinels := by
 refine plain_mkB Tryz.func50 18 (con := []) trivial (fun hA hr hv => ?_) (by kernel_rfl) (by kernel_rfl) Tryz.ntmps50
 unfold ksentinels at hr; split at hr
 ·skip
  have := ret_ok hr; subst this
  refine ⟨_, [], rfl, rfl, .of (argsentinels ) (by simp), rfl, (fun W R ρ0 own0 hown => noSums (by kernel_rfl)), .of (runsentinels rest ) ?_⟩
  clear hr
  rfl
 ·cases hr
def senP (e : FErr) (i : Nat) : Bool := decide (e = sentL.getD i .fine)
def senN (e : FErr) : Int := match e with
 | .bare n => if 101 ≤ n ∧ n ≤ 116 then n else -1
 | _ => -1
theorem sent_at : ∀ i, i < 16 → sentL.getD i RT.err.dflt = .bare (101 + (i : Int)) := by decide
theorem sen_not {e : FErr} (h : noneQ (senP e) 16 = true) : senN e = -1 := by
 rw [noneQ_iff] at h
 unfold senN
 split
 ·rename_i n
  split
  ·rename_i hn
   have h1 := h (n - 101).toNat (by omega)
   unfold senP at h1
   have e1 := sent_at (n - 101).toNat (by omega)
   rw [show RT.err.dflt = FErr.fine from rfl] at e1
   rw [e1, show (101 : Int) + ((n - 101).toNat : Int) = n by omega] at h1
   simp at h1
  ·rfl
 ·rfl
theorem senN_ne (e : FErr) : senN e ≠ 0 := by
 unfold senN; split <;> (try split) <;> omega
def Hsen (e : FErr) (i : Nat) : SState := { fr := [(0, .err e), (3, .ro .err sentL), (4, .int .i64 (.sym i 0 16))], hp := [], next := 0, sz := 20 }
def Xsen (e : FErr) : SState := { fr := [], hp := [], next := 0, sz := 20 }
def Ysen (e : FErr) : SState := { fr := [(2, .int .i64 (.full (senN e)))], hp := [], next := 0, sz := 20 }
def Lsen (e : FErr) : LSum := ⟨Hsen e 0, fun k => .ite (noneQ (senP e) 16) (k (.exit 0) (Xsen e)) (k .ret (Ysen e)), True⟩
theorem bsen (rest : List (Nat × SVal)) (e : FErr) (i : Nat) : (Tr.sat (rnd2 (env (G7 ++ (G9 ++ rest)) [(50, ksentinels), (51, kAlike)]) (fun i => noneQ (senP e) i = true) (16) (Hsen e) 0 (noneQ (senP e) 16) (Xsen e) (Ysen e) i) (run (env (G7 ++ (G9 ++ rest)) [(50, ksentinels), (51, kAlike)]) [] (loopN (bodyOf Tryz.f37) 0) (Hsen e i) .leaf)) = (
 IT (decide ((↑i : Int) < (↑(List.length sentL) : Int))) (RQ (0 ≤ (↑i : Int) ∧ (↑i : Int) < (↑(List.length sentL) : Int)) (RQ (FErr.isPlaced (List.getD sentL (Int.toNat (↑i : Int)) (RT.dflt RT.err)) = false) (IT (decide (e = List.getD sentL (Int.toNat (↑i : Int)) (RT.dflt RT.err))) (noneQ (senP e) (16 : Nat) = false ∧ (101 : Int) + (↑i : Int) = senN e) (i < 16 ∧ noneQ (senP e) (i + 1) = true ∧ e = e ∧ sentL = sentL ∧ (↑i : Int) + 1 = (↑(i + 1) : Int) ∧ 0 ≤ (↑(i + 1) : Int) ∧ (↑(i + 1) : Int) ≤ 16)))) (Nat.beq (0 : Nat) (0 : Nat) = true ∧ noneQ (senP e) (16 : Nat) = true ∧ True)) := by kernel_rfl
set_option maxHeartbeats 4000000 in
theorem lsen (e : FErr) {W : World} {R own0 : Nat → Prop} {ρ0 : Nat → Option Value} (hown : HownOk (env (G7 ++ (G9 ++ rest)) [(50, ksentinels), (51, kAlike)]) own0 ρ0) : LOk Tryz.prog (env (G7 ++ (G9 ++ rest)) [(50, ksentinels), (51, kAlike)]) (ctx ea has) (G7 ++ (G9 ++ rest)) W R own0 ρ0 (loopN (bodyOf Tryz.f37) 0) (Lsen e) := by
 refine loop2_ok (J := fun i => noneQ (senP e) i = true) (N := 16) (H := Hsen e) (X := Xsen e) (Y := Ysen e) (env_ok (con := [(50, ksentinels), (51, kAlike)]) ⟨csentinels, cAlike, trivial⟩) hown (ls := fun i => []) (fun i => noSums (by kernel_rfl)) (fun _ i hi hj => ?_) 0 (fun _ => by first | exact Nat.zero_le _ | omega) (fun _ => rfl)
 rw [bsen rest e i]
 delta RQ IT
 have hL : sentL.length = 16 := rfl
 simp only [Int.toNat_natCast, hL]
 refine ⟨fun h => ?_, fun h => ?_⟩
 ·have h := of_decide_eq_true h
  have hlt : i < 16 := by omega
  have hs := sent_at i hlt
  have hp : senP e i = decide (e = sentL.getD i RT.err.dflt) := rfl
  refine ⟨by omega, fun _ => ⟨by rw [hs]; rfl, fun _ => ⟨fun h2 => ⟨noneQ_at (hp.trans h2) hlt, ?_⟩, fun h2 => ⟨hlt, by rw [noneQ, hj, hp.trans h2]; rfl, trivial, trivial, by omega, by omega, by omega⟩⟩⟩⟩
  have h2 := of_decide_eq_true h2
  rw [h2, hs]
  unfold senN
  simp only
  rw [if_pos (by omega)]
 ·have h := of_decide_eq_false h
  have e1 : i = 16 := by omega
  subst e1
  exact ⟨rfl, hj, trivial⟩
def ksentinel : List SVal → Nat → Acc ORes := fun a n => match a with | [.err e] => .ret ({ v := .int .i64 (.full (senN e)) }) | _ => .fail "sentinel"
theorem argsentinel (e : FErr) : (all (subL tAtN none' [] deep [.err e] [.err e])) = (
 e = e) := by kernel_rfl
theorem runsentinel (rest : List (Nat × SVal)) (e : FErr) : (Tr.sat (plainQ (.int .i64 (.full (senN e)))) (run (env (G7 ++ (G9 ++ rest)) [(50, ksentinels), (51, kAlike)]) [(3, Lsen e)] (bodyOf Tryz.f37) (start [.err e] 20) (ends (env (G7 ++ (G9 ++ rest)) [(50, ksentinels), (51, kAlike)]) Tryz.f37.results.toList))) = (
 RQ (True ∧ e = e ∧ sentL = sentL ∧ (0 : Int) = (↑(0 : Nat) : Int)) (IT (noneQ (senP e) (16 : Nat)) ((-1 : Int) = senN e) (senN e = senN e))) := by kernel_rfl
set_option maxHeartbeats 4000000 in
theorem csentinel : Con ea has (G7 ++ (G9 ++ rest)) 37 ksentinel := by
 refine plain_mkB Tryz.func37 20 (con := [(50, ksentinels), (51, kAlike)]) ⟨csentinels, cAlike, trivial⟩ (fun hA hr hv => ?_) (by kernel_rfl) (by kernel_rfl) Tryz.ntmps37
 unfold ksentinel at hr; split at hr
 ·rename_i e
  have := ret_ok hr; subst this
  refine ⟨_, [(3, Lsen e)], rfl, rfl, .of (argsentinel e) (by simp), rfl, (fun W R ρ0 own0 hown => hl1 (by kernel_rfl) (by kernel_rfl) (lsen e hown)), .of (runsentinel rest e) ?_⟩
  delta RQ IT
  clear hr
  refine ⟨⟨trivial, rfl, rfl, rfl⟩, fun _ => ⟨fun h => (sen_not h).symm, fun _ => rfl⟩⟩
 ·cases hr
def fcode : FErr → Int
 | .fine => 0
 | .bare n => senN (.bare n)
 | .placed n _ => senN (.bare n)
def kFault : List SVal → Nat → Acc ORes := fun a n => match a with | [.err e] => .ret ({ v := .agg [.int .i64 (.full (fcode e)), .bool (.sym e.isPlaced), .int .i64 (.full e.pos)] }) | _ => .fail "Fault"
theorem argFault (e : FErr) : (all (subL tAtN none' [] deep [.err e] [.err e])) = (
 e = e) := by kernel_rfl
theorem runFault (rest : List (Nat × SVal)) (e : FErr) : (Tr.sat (plainQ (.agg [.int .i64 (.full (fcode e)), .bool (.sym e.isPlaced), .int .i64 (.full e.pos)])) (run (env (G7 ++ (G9 ++ rest)) [(14, kNone), (37, ksentinel), (24, kBare), (15, kPlaced)]) [] (bodyOf Tryz.f26) (start [.err e] 38) (ends (env (G7 ++ (G9 ++ rest)) [(14, kNone), (37, ksentinel), (24, kBare), (15, kPlaced)]) Tryz.f26.results.toList))) = (
 IT (!FErr.isErr e) ((0 : Int) = fcode e ∧ false = FErr.isPlaced e ∧ (0 : Int) = FErr.pos e) (IT (!FErr.isPlaced e) (senN e = fcode e ∧ false = FErr.isPlaced e ∧ (0 : Int) = FErr.pos e) (RQ ((!!FErr.isPlaced e) = true → FErr.isPlaced e = true) (RQ ((!!FErr.isPlaced e) = true → FErr.isPlaced e = true) (IT (!FErr.isPlaced e || !FErr.isErr (FErr.inner e)) ((-1 : Int) = fcode e ∧ false = FErr.isPlaced e ∧ (0 : Int) = FErr.pos e) (RQ (FErr.isPlaced e = true) (RQ (FErr.isPlaced e = true) (RQ (FErr.isPlaced e = true) (RQ (FErr.isPlaced e = true) (senN (FErr.inner e) = fcode e ∧ (!decide (senN (FErr.inner e) = 0)) = FErr.isPlaced e ∧ (if senN (FErr.inner e) = 0 then (0 : Int) else FErr.pos e) = FErr.pos e)))))))))) := by kernel_rfl
set_option maxHeartbeats 4000000 in
theorem cFault : Con ea has (G7 ++ (G9 ++ rest)) 26 kFault := by
 refine plain_mkB Tryz.func26 38 (con := [(14, kNone), (37, ksentinel), (24, kBare), (15, kPlaced)]) ⟨cNone, csentinel, cBare, cPlaced, trivial⟩ (fun hA hr hv => ?_) (by kernel_rfl) (by kernel_rfl) Tryz.ntmps26
 unfold kFault at hr; split at hr
 ·rename_i e
  have := ret_ok hr; subst this
  refine ⟨_, [], rfl, rfl, .of (argFault e) (by simp), rfl, (fun W R ρ0 own0 hown => noSums (by kernel_rfl)), .of (runFault rest e) ?_⟩
  delta RQ IT
  clear hr
  have hz := senN_ne
  cases e with
  | fine => simp [FErr.isErr, fcode, FErr.isPlaced, FErr.pos]
  | bare n => simp [FErr.isErr, fcode, FErr.isPlaced, FErr.pos]
  | placed n p => simp [FErr.isErr, fcode, FErr.isPlaced, FErr.pos, FErr.inner, hz]
 ·cases hr
def kSeeSame : List SVal → Nat → Acc ORes := fun a n => match a with | [.err e, .agg [.int .i64 a, .bool b, .int .i64 c]] => .ret ({ v := .bool (.sym (decide (fcode e = a.val) && (e.isPlaced == b.val) && decide (e.pos = c.val))) }) | _ => .fail "SeeSame"
theorem argSeeSame (e : FErr) (a : SI) (b : SB) (c : SI) : (all (subL tAtN none' [] deep [.err e, .agg [.int .i64 a, .bool b, .int .i64 c]] [.err e, .agg [.int .i64 (.full a.val), .bool (.sym b.val), .int .i64 (.full c.val)]])) = (
 e = e ∧ SI.val a = SI.val a ∧ SB.val b = SB.val b ∧ SI.val c = SI.val c) := by kernel_rfl
theorem runSeeSame (rest : List (Nat × SVal)) (e : FErr) (a : Int) (b : Bool) (c : Int) : (Tr.sat (plainQ (.bool (.sym (decide (fcode e = a) && (e.isPlaced == b) && decide (e.pos = c))))) (run (env (G7 ++ (G9 ++ rest)) [(26, kFault), (25, kSameFault)]) [] (bodyOf Tryz.f16) (start [.err e, .agg [.int .i64 (.full a), .bool (.sym b), .int .i64 (.full c)]] 9) (ends (env (G7 ++ (G9 ++ rest)) [(26, kFault), (25, kSameFault)]) Tryz.f16.results.toList))) = (
 (decide (fcode e = a) && FErr.isPlaced e == b && decide (FErr.pos e = c)) = (decide (fcode e = a) && FErr.isPlaced e == b && decide (FErr.pos e = c))) := by kernel_rfl
set_option maxHeartbeats 4000000 in
theorem cSeeSame : Con ea has (G7 ++ (G9 ++ rest)) 16 kSeeSame := by
 refine plain_mkB Tryz.func16 9 (con := [(26, kFault), (25, kSameFault)]) ⟨cFault, cSameFault, trivial⟩ (fun hA hr hv => ?_) (by kernel_rfl) (by kernel_rfl) Tryz.ntmps16
 unfold kSeeSame at hr; split at hr
 ·rename_i e a b c
  have := ret_ok hr; subst this
  refine ⟨_, [], rfl, rfl, .of (argSeeSame e a b c) (by simp), rfl, (fun W R ρ0 own0 hown => noSums (by kernel_rfl)), .of (runSeeSame rest e a.val b.val c.val) ?_⟩
  clear hr
  rfl
 ·cases hr
end
end Go.Proofs.YtacmmedhjebfjaaGreatDoor
set_option linter.unusedVariables false
set_option linter.unusedSimpArgs false
namespace Go.Proofs.YtacmmedhjebfjaaGreatDoor
open Go.RowKit Go.Sy Go.Fac
def nxT (n i : Nat) : ByteArray := if i + 1 = n then mainT else fT (i + 1)
def namO (n i : Nat) : Ob := ⟨[(i : Int)], [268435456], [1], [], [⟨0, 2, 1, 0⟩], [⟨fT i, 2, 0, true⟩, ⟨nxT n i, 3, 0, true⟩]⟩
def nU (n i : Nat) : List Ob := (List.range i).map (namO n)
theorem nU_succ (n i : Nat) : nU n (i + 1) = nU n i ++ [namO n i] := by unfold nU; rw [List.range_succ, List.map_append]; rfl
theorem nU_len (n i : Nat) : (nU n i).length = i := by simp [nU]
def f0T : ByteArray := ⟨#[102, 48]⟩
def nobT : ByteArray := ⟨#[110, 111, 98, 111, 100, 121]⟩
def mnO (x : ByteArray) : Ob := ⟨[], [369098752, 0], [1, 0], [], [⟨1, 1, 1, 0⟩], [⟨mainT, 2, 0, true⟩, ⟨x, 3, 0, true⟩]⟩
def oneO : Ob := ⟨[], [16777216], [1], [], [], [⟨f0T, 2, 0, true⟩]⟩
def nC (c n : Nat) : List Ob := nU n n ++ (if c = 0 then [mnO f0T] else if c = 1 then [mnO nobT] else if c = 2 then [mnO f0T, oneO] else [])
def wC (c : Nat) : Int := if c = 0 then 0 else if c = 2 then 106 else 107
def wB (c : Nat) : Bool := !decide (c = 0)
def wP (c n : Nat) : Int := if c = 0 then 0 else if c = 1 then n else if c = 2 then n + 1 else (n : Int) - 1
def wE (c n : Nat) : FErr := if c = 0 then .fine else if c = 2 then .placed 106 (wP c n) else .placed 107 (wP c n)
theorem n5 {n : Nat} (h : 1 ≤ n ∧ n ≤ 5) : n = 1 ∨ n = 2 ∨ n = 3 ∨ n = 4 ∨ n = 5 := by omega
theorem c4 {c : Nat} (h : c < 4) : c = 0 ∨ c = 1 ∨ c = 2 ∨ c = 3 := by omega
theorem two_lines {a b : ByteArray} (ha : a ≠ ByteArray.empty) (hb : b ≠ ByteArray.empty) (hab : a ≠ b) :
  oAll [⟨⟨0, 0, 0, 0, 0⟩, a, ByteArray.empty, false⟩, ⟨⟨16, 0, 0, 0, 0⟩, ByteArray.empty, b, false⟩] = ⟨[268435456], [1], [⟨0, 2, 1, 0⟩], [⟨a, 2, 0, true⟩, ⟨b, 3, 0, true⟩]⟩ ∧
  oAll [⟨⟨0, 0, 0, 0, 0⟩, a, ByteArray.empty, false⟩, ⟨⟨22, 0, 0, 0, 0⟩, ByteArray.empty, b, false⟩] = ⟨[369098752, 0], [1, 0], [⟨1, 1, 1, 0⟩], [⟨a, 2, 0, true⟩, ⟨b, 3, 0, true⟩]⟩ := by
 have hs : nmP [⟨a, 2, 0, true⟩] b 0 = false := decide_eq_false hab
 have hi : idxM (nmP [⟨a, 2, 0, true⟩] b) 1 = 1 := by
  rw [idxM_none]; intro i hi
  have : i = 0 := by omega
  subst this; exact hs
 have hsy : symI [⟨a, 2, 0, true⟩] b = 1 := hi
 have hsa : symAdd [⟨a, 2, 0, true⟩] b = [⟨a, 2, 0, true⟩, ⟨b, 3, 0, true⟩] := by
  unfold symAdd
  rw [hsy]; rfl
 refine ⟨?_, ?_⟩
 ·rw [oAll_fold, List.foldl_cons, fold_at ha, List.foldl_cons, List.foldl_nil]
  unfold oStep
  rw [if_neg (fun h => h rfl), if_neg (fun h => Bool.noConfusion h)]
  unfold oIns
  have ht : isaTwo 16 = false := rfl
  simp only [ht]
  unfold oRel
  rw [if_neg hb, hsy, hsa]; rfl
 ·rw [oAll_fold, List.foldl_cons, fold_at ha, List.foldl_cons, List.foldl_nil]
  unfold oStep
  rw [if_neg (fun h => h rfl), if_neg (fun h => Bool.noConfusion h)]
  unfold oIns
  have ht : isaTwo 22 = true := rfl
  simp only [ht]
  unfold oRel
  rw [if_neg hb, hsy, hsa]; rfl
theorem fT_ne {i : Nat} (h : i < 7) : fT i ≠ ByteArray.empty ∧ fT i ≠ mainT := by
 have : ((List.range 7).all fun k => decide (fT k ≠ ByteArray.empty ∧ fT k ≠ mainT)) = true := by decide +kernel
 exact of_decide_eq_true (List.all_eq_true.1 this i (List.mem_range.2 h))
theorem fT_inj {i j : Nat} (hi : i < 7) (hj : j < 7) (h : fT i = fT j) : i = j := by
 have := all2 (n := 7) (f := fun j k => decide (fT j = fT k → j = k)) (by decide +kernel) hi hj
 exact of_decide_eq_true this h
theorem nam_mk {n i : Nat} (hn : 1 ≤ n ∧ n ≤ 5) (hi : i < n) : oAll [⟨⟨0, 0, 0, 0, 0⟩, fT i, ByteArray.empty, false⟩, ⟨⟨16, 0, 0, 0, 0⟩, ByteArray.empty, nxT n i, false⟩] = ⟨[268435456], [1], [⟨0, 2, 1, 0⟩], [⟨fT i, 2, 0, true⟩, ⟨nxT n i, 3, 0, true⟩]⟩ := by
 obtain ⟨a1, a2⟩ := fT_ne (i := i) (by omega)
 refine (two_lines a1 ?_ ?_).1
 ·unfold nxT; split
  ·decide
  ·exact (fT_ne (by omega)).1
 ·unfold nxT; split
  ·exact a2
  ·exact fun e => by have := fT_inj (by omega) (by omega) e; omega
theorem main_mk : oAll [⟨⟨0, 0, 0, 0, 0⟩, mainT, ByteArray.empty, false⟩, ⟨⟨22, 0, 0, 0, 0⟩, ByteArray.empty, f0T, false⟩] = ⟨[369098752, 0], [1, 0], [⟨1, 1, 1, 0⟩], [⟨mainT, 2, 0, true⟩, ⟨f0T, 3, 0, true⟩]⟩ := (two_lines (by decide) (by decide) (by decide)).2
theorem nob_mk : oAll [⟨⟨0, 0, 0, 0, 0⟩, mainT, ByteArray.empty, false⟩, ⟨⟨22, 0, 0, 0, 0⟩, ByteArray.empty, nobT, false⟩] = ⟨[369098752, 0], [1, 0], [⟨1, 1, 1, 0⟩], [⟨mainT, 2, 0, true⟩, ⟨nobT, 3, 0, true⟩]⟩ := (two_lines (by decide) (by decide) (by decide)).2
theorem one_mk : oAll [⟨⟨0, 0, 0, 0, 0⟩, f0T, ByteArray.empty, false⟩, opL 1 []] = ⟨[16777216], [1], [], [⟨f0T, 2, 0, true⟩]⟩ := by
 rw [oAll_fold, List.foldl_cons, fold_at (by decide)]; rfl
theorem names_says {n c : Nat} (hn : 1 ≤ n ∧ n ≤ 5) (hc : c < 4) : laidE (nC c n) = wE c n := by
 rcases n5 hn with rfl | rfl | rfl | rfl | rfl <;> rcases c4 hc with rfl | rfl | rfl | rfl <;> decide +kernel
theorem names_img {n : Nat} (hn : 1 ≤ n ∧ n ≤ 5) : (linkI (nC 0 n)).code.length = n + 2 ∧ (linkI (nC 0 n)).data.length = n ∧ (linkI (nC 0 n)).entry = 2048 + n ∧ (linkI (nC 0 n)).code.getD (n + 1) 0 = 2048 := by
 rcases n5 hn with rfl | rfl | rfl | rfl | rfl <;> refine ⟨?_, ?_, ?_, ?_⟩ <;> decide +kernel
theorem names_sees {n c : Nat} (hc : c < 4) : (decide (fcode (wE c n) = wC c) && ((wE c n).isPlaced == wB c) && decide ((wE c n).pos = wP c n)) = true := by
 rcases c4 hc with rfl | rfl | rfl | rfl
 ·rfl
 ·show (decide ((107 : Int) = 107) && (true == true) && decide (wP 1 n = wP 1 n)) = true; simp
 ·show (decide ((106 : Int) = 106) && (true == true) && decide (wP 2 n = wP 2 n)) = true; simp
 ·show (decide ((107 : Int) = 107) && (true == true) && decide (wP 3 n = wP 3 n)) = true; simp
end Go.Proofs.YtacmmedhjebfjaaGreatDoor
set_option linter.unusedVariables false
set_option linter.unusedSimpArgs false
set_option linter.unusedSectionVars false
namespace Go.Proofs.YtacmmedhjebfjaaGreatDoor
open Go.RowKit Go.Sy Go.Fac
section
variable {ea : Ear} {has : Int → Prop} {rest : List (Nat × SVal)} [ht : Nonempty (EType ea)] [hpw : Nonempty (Pow ea)]
def HnamA (n : Nat) (k' : Int) (i : Nat) : SState := { fr := [(0, .int .i64 (.sym (n : Int) 1 5)), (1, .int .i64 (.full k')), (5, .bool (.lit true)), (6, .own 0), (7, .int .i64 (.sym i 0 1000000))], hp := [(0, some (.recs .obj (nU n i)))], next := 1, sz := 133 }
def XnamA (n : Nat) (k' : Int) : SState := { fr := [(0, .int .i64 (.sym (n : Int) 1 5)), (1, .int .i64 (.full k')), (5, .bool (.lit true)), (6, .own 0)], hp := [(0, some (.recs .obj (nU n n)))], next := 1, sz := 133 }
def LnamA (n : Nat) (k' : Int) : LSum := ⟨HnamA n k' 0, fun k => k (.exit 0) (XnamA n k'), 1 ≤ n ∧ n ≤ 5⟩
theorem bnamA (rest : List (Nat × SVal)) (n : Nat) (k' : Int) (i : Nat) : (Tr.sat (rnd1 (env (G7 ++ (G9 ++ rest)) [(5, kfirst13), (6, kNumber), (8, kNum), (7, kAt), (13, kTo), (9, kOp), (10, kObjectRF), (11, kLinkF), (14, kNone), (15, kPlaced), (16, kSeeSame)]) (fun _ => True) (n) (HnamA n k') 0 (XnamA n k') i) (run (env (G7 ++ (G9 ++ rest)) [(5, kfirst13), (6, kNumber), (8, kNum), (7, kAt), (13, kTo), (9, kOp), (10, kObjectRF), (11, kLinkF), (14, kNone), (15, kPlaced), (16, kSeeSame)]) [(2000012, cutL { fr := [(0, .int .i64 (.sym (n : Int) 1 5)), (1, .int .i64 (.full k')), (5, .bool (.lit true)), (6, .own 0), (7, .int .i64 (.sym (i : Int) 0 1000000)), (8, .str (nxT n i))], hp := [(0, some (.recs .obj (nU n i)))], next := 1, sz := 133 })] (loopN (bodyOf Tryz.f4) 0) (HnamA n k' i) .leaf)) = (
 IT (decide ((↑i : Int) < (↑n : Int))) (RQ (ByteArray.size (ByteArray.mk #[(102 : UInt8)]) + ByteArray.size (itoaB ((↑i : Int) + 1)) ≤ 9223372036854775807) ((IT (decide ((↑i : Int) = (↑n : Int) - 1)) ((↑n : Int) = (↑n : Int) ∧ k' = k' ∧ true = true ∧ (↑i : Int) = (↑i : Int) ∧ ByteArray.mk #[(109 : UInt8), (97 : UInt8), (105 : UInt8), (110 : UInt8)] = nxT n i ∧ nU n i = nU n i) ((↑n : Int) = (↑n : Int) ∧ k' = k' ∧ true = true ∧ (↑i : Int) = (↑i : Int) ∧ ByteArray.mk #[(102 : UInt8)] ++ itoaB ((↑i : Int) + 1) = nxT n i ∧ nU n i = nU n i)) ∧ RQ (ByteArray.size (ByteArray.mk #[(102 : UInt8)]) + ByteArray.size (itoaB (↑i : Int)) ≤ 9223372036854775807) (RQ (List.length [Ln.mk (In5.mk (0 : Int) (0 : Int) (0 : Int) (0 : Int) (0 : Int)) (ByteArray.mk #[(102 : UInt8)] ++ itoaB (↑i : Int)) ByteArray.empty false, Ln.mk (In5.mk (16 : Int) (0 : Int) (0 : Int) (0 : Int) (0 : Int)) ByteArray.empty (nxT n i) false] ≤ 100000 ∧ shortN [(↑i : Int)]) (RQ (List.length (nU n i) + List.length [Ob.mk [(↑i : Int)] (oAll [Ln.mk (In5.mk (0 : Int) (0 : Int) (0 : Int) (0 : Int) (0 : Int)) (ByteArray.mk #[(102 : UInt8)] ++ itoaB (↑i : Int)) ByteArray.empty false, Ln.mk (In5.mk (16 : Int) (0 : Int) (0 : Int) (0 : Int) (0 : Int)) ByteArray.empty (nxT n i) false]).code (oAll [Ln.mk (In5.mk (0 : Int) (0 : Int) (0 : Int) (0 : Int) (0 : Int)) (ByteArray.mk #[(102 : UInt8)] ++ itoaB (↑i : Int)) ByteArray.empty false, Ln.mk (In5.mk (16 : Int) (0 : Int) (0 : Int) (0 : Int) (0 : Int)) ByteArray.empty (nxT n i) false]).map (nilR RT.rel) (oAll [Ln.mk (In5.mk (0 : Int) (0 : Int) (0 : Int) (0 : Int) (0 : Int)) (ByteArray.mk #[(102 : UInt8)] ++ itoaB (↑i : Int)) ByteArray.empty false, Ln.mk (In5.mk (16 : Int) (0 : Int) (0 : Int) (0 : Int) (0 : Int)) ByteArray.empty (nxT n i) false]).cr (oAll [Ln.mk (In5.mk (0 : Int) (0 : Int) (0 : Int) (0 : Int) (0 : Int)) (ByteArray.mk #[(102 : UInt8)] ++ itoaB (↑i : Int)) ByteArray.empty false, Ln.mk (In5.mk (16 : Int) (0 : Int) (0 : Int) (0 : Int) (0 : Int)) ByteArray.empty (nxT n i) false]).sy] ≤ 137438953472) (i < n ∧ True ∧ (↑n : Int) = (↑n : Int) ∧ k' = k' ∧ true = true ∧ (↑i : Int) + 1 = (↑(i + 1) : Int) ∧ (0 ≤ (↑(i + 1) : Int) ∧ (↑(i + 1) : Int) ≤ 1000000) ∧ nU n i ++ [Ob.mk [(↑i : Int)] (oAll [Ln.mk (In5.mk (0 : Int) (0 : Int) (0 : Int) (0 : Int) (0 : Int)) (ByteArray.mk #[(102 : UInt8)] ++ itoaB (↑i : Int)) ByteArray.empty false, Ln.mk (In5.mk (16 : Int) (0 : Int) (0 : Int) (0 : Int) (0 : Int)) ByteArray.empty (nxT n i) false]).code (oAll [Ln.mk (In5.mk (0 : Int) (0 : Int) (0 : Int) (0 : Int) (0 : Int)) (ByteArray.mk #[(102 : UInt8)] ++ itoaB (↑i : Int)) ByteArray.empty false, Ln.mk (In5.mk (16 : Int) (0 : Int) (0 : Int) (0 : Int) (0 : Int)) ByteArray.empty (nxT n i) false]).map (nilR RT.rel) (oAll [Ln.mk (In5.mk (0 : Int) (0 : Int) (0 : Int) (0 : Int) (0 : Int)) (ByteArray.mk #[(102 : UInt8)] ++ itoaB (↑i : Int)) ByteArray.empty false, Ln.mk (In5.mk (16 : Int) (0 : Int) (0 : Int) (0 : Int) (0 : Int)) ByteArray.empty (nxT n i) false]).cr (oAll [Ln.mk (In5.mk (0 : Int) (0 : Int) (0 : Int) (0 : Int) (0 : Int)) (ByteArray.mk #[(102 : UInt8)] ++ itoaB (↑i : Int)) ByteArray.empty false, Ln.mk (In5.mk (16 : Int) (0 : Int) (0 : Int) (0 : Int) (0 : Int)) ByteArray.empty (nxT n i) false]).sy] = nU n (i + 1)))))) (Nat.beq (0 : Nat) (0 : Nat) = true ∧ (↑n : Int) = (↑n : Int) ∧ k' = k' ∧ true = true ∧ nU n i = nU n n)) := by kernel_rfl
set_option maxHeartbeats 4000000 in
theorem lnamA (n : Nat) (k' : Int) {W : World} {R own0 : Nat → Prop} {ρ0 : Nat → Option Value} (hown : HownOk (env (G7 ++ (G9 ++ rest)) [(5, kfirst13), (6, kNumber), (8, kNum), (7, kAt), (13, kTo), (9, kOp), (10, kObjectRF), (11, kLinkF), (14, kNone), (15, kPlaced), (16, kSeeSame)]) own0 ρ0) : LOk Tryz.prog (env (G7 ++ (G9 ++ rest)) [(5, kfirst13), (6, kNumber), (8, kNum), (7, kAt), (13, kTo), (9, kOp), (10, kObjectRF), (11, kLinkF), (14, kNone), (15, kPlaced), (16, kSeeSame)]) (ctx ea has) (G7 ++ (G9 ++ rest)) W R own0 ρ0 (loopN (bodyOf Tryz.f4) 0) (LnamA n k') := by
 refine loop1_ok (J := fun _ => True) (N := n) (H := HnamA n k') (X := XnamA n k') (env_ok (con := [(5, kfirst13), (6, kNumber), (8, kNum), (7, kAt), (13, kTo), (9, kOp), (10, kObjectRF), (11, kLinkF), (14, kNone), (15, kPlaced), (16, kSeeSame)]) ⟨cfirst13, cNumber, cNum, cAt, cTo, cOp, cObjectRF, cLinkF, cNone, cPlaced, cSeeSame, trivial⟩) hown (ls := fun i => [(2000012, cutL { fr := [(0, .int .i64 (.sym (n : Int) 1 5)), (1, .int .i64 (.full k')), (5, .bool (.lit true)), (6, .own 0), (7, .int .i64 (.sym (i : Int) 0 1000000)), (8, .str (nxT n i))], hp := [(0, some (.recs .obj (nU n i)))], next := 1, sz := 133 })]) (fun i => noSums (by kernel_rfl)) (fun hm i hi hj => ?_) 0 (fun hm => by first | exact Nat.zero_le _ | omega) (fun hm => trivial)
 rw [bnamA rest n k' i]
 delta RQ IT
 refine ⟨fun h => ?_, fun h => ?_⟩
 ·have h := of_decide_eq_true h
  have hlt : i < n := by omega
  have sz : ∀ z : Int, (⟨#[102]⟩ : ByteArray).size + (itoaB z).size ≤ 9223372036854775807 := fun z => by
   have := itoaB_size z
   have e : (⟨#[102]⟩ : ByteArray).size = 1 := rfl
   omega
  have em : oAll [⟨⟨0, 0, 0, 0, 0⟩, ⟨#[102]⟩ ++ itoaB (i : Int), ByteArray.empty, false⟩, ⟨⟨16, 0, 0, 0, 0⟩, ByteArray.empty, nxT n i, false⟩] = ⟨[268435456], [1], [⟨0, 2, 1, 0⟩], [⟨fT i, 2, 0, true⟩, ⟨nxT n i, 3, 0, true⟩]⟩ := nam_mk hm hlt
  rw [em, nU_len]
  refine ⟨sz _, fun _ => ⟨⟨fun g => ?_, fun g => ?_⟩, sz _, fun _ => ⟨⟨by show 2 ≤ 100000; omega, by show 1 ≤ 1000000; omega⟩, fun _ => ⟨by show i + 1 ≤ _; omega, fun _ => ⟨hlt, trivial, rfl, rfl, rfl, by omega, ⟨by omega, by omega⟩, (nU_succ n i).symm⟩⟩⟩⟩⟩
  ·have g := of_decide_eq_true g
   have e : nxT n i = mainT := by unfold nxT; rw [if_pos (by omega)]
   exact ⟨rfl, rfl, rfl, rfl, e.symm, rfl⟩
  ·have g := of_decide_eq_false g
   have e : nxT n i = fT (i + 1) := by unfold nxT; rw [if_neg (by omega)]
   exact ⟨rfl, rfl, rfl, rfl, e.symm, rfl⟩
 ·have h := of_decide_eq_false h
  have : i = n := by omega
  subst this
  exact ⟨rfl, rfl, rfl, rfl, rfl⟩
def cN (x : Int) : Nat := (x % 5 + 1).toNat
def cC (x : Int) : Nat := (x % 4).toNat
def kLinkNames : List SVal → Nat → Acc ORes := fun a n => match a with | [.int .i64 n', .int .i64 k'] => .ret ({ v := .bool (.lit true) }) | _ => .fail "LinkNames"
theorem argLinkNames (n' k' : SI) : (all (subL tAtN none' [] deep [.int .i64 n', .int .i64 k'] [.int .i64 (.full n'.val), .int .i64 (.full k'.val)])) = (
 SI.val n' = SI.val n' ∧ SI.val k' = SI.val k') := by kernel_rfl
theorem runLinkNames (rest : List (Nat × SVal)) (n' : Int) (k' : Int) : (Tr.sat (plainQ (.bool (.lit true))) (run (env (G7 ++ (G9 ++ rest)) [(5, kfirst13), (6, kNumber), (8, kNum), (7, kAt), (13, kTo), (9, kOp), (10, kObjectRF), (11, kLinkF), (14, kNone), (15, kPlaced), (16, kSeeSame)]) [(7, LnamA (cN n') k'), (2000025, cutL { fr := [(0, .int .i64 (.sym (cN n' : Int) 1 5)), (5, .bool (.lit true)), (6, .own 0), (10, .ptr 1 0)], hp := [(0, some (.recs .obj (nC (cC k') (cN n')))), (1, some (.cells [.int .i64 (.full (wC (cC k'))), .bool (.sym (wB (cC k'))), .int .i64 (.full (wP (cC k') (cN n')))]))], next := 2, sz := 133 })] (bodyOf Tryz.f4) (start [.int .i64 (.full n'), .int .i64 (.full k')] 133) (ends (env (G7 ++ (G9 ++ rest)) [(5, kfirst13), (6, kNumber), (8, kNum), (7, kAt), (13, kTo), (9, kOp), (10, kObjectRF), (11, kLinkF), (14, kNone), (15, kPlaced), (16, kSeeSame)]) Tryz.f4.results.toList))) = (
 RQ ((0 : Int) < (5 : Int)) (RQ (((1 : Nat) ≤ cN n' ∧ cN n' ≤ 5) ∧ IntKind.wrap IntKind.i64 (n' % 5 + (1 : Int)) = (↑(cN n') : Int) ∧ ((1 : Int) ≤ (↑(cN n') : Int) ∧ (↑(cN n') : Int) ≤ 5) ∧ k' = k' ∧ true = true ∧ (0 : Int) = (↑(0 : Nat) : Int) ∧ @List.nil (RT.ty RT.obj) = nU (cN n') (0 : Nat)) (RQ (List.length [Ln.mk (In5.mk (0 : Int) (0 : Int) (0 : Int) (0 : Int) (0 : Int)) (ByteArray.mk #[(109 : UInt8), (97 : UInt8), (105 : UInt8), (110 : UInt8)]) ByteArray.empty false, Ln.mk (In5.mk (22 : Int) (0 : Int) (0 : Int) (0 : Int) (0 : Int)) ByteArray.empty (ByteArray.mk #[(102 : UInt8), (48 : UInt8)]) false] ≤ 100000 ∧ shortN (@List.nil (RT.ty RT.u32))) ((RQ ((0 : Int) < (4 : Int)) (IT (decide (k' % 4 = (0 : Int))) (RQ (List.length (nU (cN n') (cN n')) + List.length [Ob.mk (@List.nil (RT.ty RT.u32)) (oAll [Ln.mk (In5.mk (0 : Int) (0 : Int) (0 : Int) (0 : Int) (0 : Int)) (ByteArray.mk #[(109 : UInt8), (97 : UInt8), (105 : UInt8), (110 : UInt8)]) ByteArray.empty false, Ln.mk (In5.mk (22 : Int) (0 : Int) (0 : Int) (0 : Int) (0 : Int)) ByteArray.empty (ByteArray.mk #[(102 : UInt8), (48 : UInt8)]) false]).code (oAll [Ln.mk (In5.mk (0 : Int) (0 : Int) (0 : Int) (0 : Int) (0 : Int)) (ByteArray.mk #[(109 : UInt8), (97 : UInt8), (105 : UInt8), (110 : UInt8)]) ByteArray.empty false, Ln.mk (In5.mk (22 : Int) (0 : Int) (0 : Int) (0 : Int) (0 : Int)) ByteArray.empty (ByteArray.mk #[(102 : UInt8), (48 : UInt8)]) false]).map (nilR RT.rel) (oAll [Ln.mk (In5.mk (0 : Int) (0 : Int) (0 : Int) (0 : Int) (0 : Int)) (ByteArray.mk #[(109 : UInt8), (97 : UInt8), (105 : UInt8), (110 : UInt8)]) ByteArray.empty false, Ln.mk (In5.mk (22 : Int) (0 : Int) (0 : Int) (0 : Int) (0 : Int)) ByteArray.empty (ByteArray.mk #[(102 : UInt8), (48 : UInt8)]) false]).cr (oAll [Ln.mk (In5.mk (0 : Int) (0 : Int) (0 : Int) (0 : Int) (0 : Int)) (ByteArray.mk #[(109 : UInt8), (97 : UInt8), (105 : UInt8), (110 : UInt8)]) ByteArray.empty false, Ln.mk (In5.mk (22 : Int) (0 : Int) (0 : Int) (0 : Int) (0 : Int)) ByteArray.empty (ByteArray.mk #[(102 : UInt8), (48 : UInt8)]) false]).sy] ≤ 137438953472) ((↑(cN n') : Int) = (↑(cN n') : Int) ∧ true = true ∧ nU (cN n') (cN n') ++ [Ob.mk (@List.nil (RT.ty RT.u32)) (oAll [Ln.mk (In5.mk (0 : Int) (0 : Int) (0 : Int) (0 : Int) (0 : Int)) (ByteArray.mk #[(109 : UInt8), (97 : UInt8), (105 : UInt8), (110 : UInt8)]) ByteArray.empty false, Ln.mk (In5.mk (22 : Int) (0 : Int) (0 : Int) (0 : Int) (0 : Int)) ByteArray.empty (ByteArray.mk #[(102 : UInt8), (48 : UInt8)]) false]).code (oAll [Ln.mk (In5.mk (0 : Int) (0 : Int) (0 : Int) (0 : Int) (0 : Int)) (ByteArray.mk #[(109 : UInt8), (97 : UInt8), (105 : UInt8), (110 : UInt8)]) ByteArray.empty false, Ln.mk (In5.mk (22 : Int) (0 : Int) (0 : Int) (0 : Int) (0 : Int)) ByteArray.empty (ByteArray.mk #[(102 : UInt8), (48 : UInt8)]) false]).map (nilR RT.rel) (oAll [Ln.mk (In5.mk (0 : Int) (0 : Int) (0 : Int) (0 : Int) (0 : Int)) (ByteArray.mk #[(109 : UInt8), (97 : UInt8), (105 : UInt8), (110 : UInt8)]) ByteArray.empty false, Ln.mk (In5.mk (22 : Int) (0 : Int) (0 : Int) (0 : Int) (0 : Int)) ByteArray.empty (ByteArray.mk #[(102 : UInt8), (48 : UInt8)]) false]).cr (oAll [Ln.mk (In5.mk (0 : Int) (0 : Int) (0 : Int) (0 : Int) (0 : Int)) (ByteArray.mk #[(109 : UInt8), (97 : UInt8), (105 : UInt8), (110 : UInt8)]) ByteArray.empty false, Ln.mk (In5.mk (22 : Int) (0 : Int) (0 : Int) (0 : Int) (0 : Int)) ByteArray.empty (ByteArray.mk #[(102 : UInt8), (48 : UInt8)]) false]).sy] = nC (cC k') (cN n') ∧ (0 : Int) = wC (cC k') ∧ false = wB (cC k') ∧ (0 : Int) = wP (cC k') (cN n'))) (IT (decide (k' % 4 = (1 : Int))) (RQ (List.length [Ln.mk (In5.mk (0 : Int) (0 : Int) (0 : Int) (0 : Int) (0 : Int)) (ByteArray.mk #[(109 : UInt8), (97 : UInt8), (105 : UInt8), (110 : UInt8)]) ByteArray.empty false, Ln.mk (In5.mk (22 : Int) (0 : Int) (0 : Int) (0 : Int) (0 : Int)) ByteArray.empty (ByteArray.mk #[(110 : UInt8), (111 : UInt8), (98 : UInt8), (111 : UInt8), (100 : UInt8), (121 : UInt8)]) false] ≤ 100000 ∧ shortN (@List.nil (RT.ty RT.u32))) (RQ (List.length (nU (cN n') (cN n')) + List.length [Ob.mk (@List.nil (RT.ty RT.u32)) (oAll [Ln.mk (In5.mk (0 : Int) (0 : Int) (0 : Int) (0 : Int) (0 : Int)) (ByteArray.mk #[(109 : UInt8), (97 : UInt8), (105 : UInt8), (110 : UInt8)]) ByteArray.empty false, Ln.mk (In5.mk (22 : Int) (0 : Int) (0 : Int) (0 : Int) (0 : Int)) ByteArray.empty (ByteArray.mk #[(110 : UInt8), (111 : UInt8), (98 : UInt8), (111 : UInt8), (100 : UInt8), (121 : UInt8)]) false]).code (oAll [Ln.mk (In5.mk (0 : Int) (0 : Int) (0 : Int) (0 : Int) (0 : Int)) (ByteArray.mk #[(109 : UInt8), (97 : UInt8), (105 : UInt8), (110 : UInt8)]) ByteArray.empty false, Ln.mk (In5.mk (22 : Int) (0 : Int) (0 : Int) (0 : Int) (0 : Int)) ByteArray.empty (ByteArray.mk #[(110 : UInt8), (111 : UInt8), (98 : UInt8), (111 : UInt8), (100 : UInt8), (121 : UInt8)]) false]).map (nilR RT.rel) (oAll [Ln.mk (In5.mk (0 : Int) (0 : Int) (0 : Int) (0 : Int) (0 : Int)) (ByteArray.mk #[(109 : UInt8), (97 : UInt8), (105 : UInt8), (110 : UInt8)]) ByteArray.empty false, Ln.mk (In5.mk (22 : Int) (0 : Int) (0 : Int) (0 : Int) (0 : Int)) ByteArray.empty (ByteArray.mk #[(110 : UInt8), (111 : UInt8), (98 : UInt8), (111 : UInt8), (100 : UInt8), (121 : UInt8)]) false]).cr (oAll [Ln.mk (In5.mk (0 : Int) (0 : Int) (0 : Int) (0 : Int) (0 : Int)) (ByteArray.mk #[(109 : UInt8), (97 : UInt8), (105 : UInt8), (110 : UInt8)]) ByteArray.empty false, Ln.mk (In5.mk (22 : Int) (0 : Int) (0 : Int) (0 : Int) (0 : Int)) ByteArray.empty (ByteArray.mk #[(110 : UInt8), (111 : UInt8), (98 : UInt8), (111 : UInt8), (100 : UInt8), (121 : UInt8)]) false]).sy] ≤ 137438953472) ((↑(cN n') : Int) = (↑(cN n') : Int) ∧ true = true ∧ nU (cN n') (cN n') ++ [Ob.mk (@List.nil (RT.ty RT.u32)) (oAll [Ln.mk (In5.mk (0 : Int) (0 : Int) (0 : Int) (0 : Int) (0 : Int)) (ByteArray.mk #[(109 : UInt8), (97 : UInt8), (105 : UInt8), (110 : UInt8)]) ByteArray.empty false, Ln.mk (In5.mk (22 : Int) (0 : Int) (0 : Int) (0 : Int) (0 : Int)) ByteArray.empty (ByteArray.mk #[(110 : UInt8), (111 : UInt8), (98 : UInt8), (111 : UInt8), (100 : UInt8), (121 : UInt8)]) false]).code (oAll [Ln.mk (In5.mk (0 : Int) (0 : Int) (0 : Int) (0 : Int) (0 : Int)) (ByteArray.mk #[(109 : UInt8), (97 : UInt8), (105 : UInt8), (110 : UInt8)]) ByteArray.empty false, Ln.mk (In5.mk (22 : Int) (0 : Int) (0 : Int) (0 : Int) (0 : Int)) ByteArray.empty (ByteArray.mk #[(110 : UInt8), (111 : UInt8), (98 : UInt8), (111 : UInt8), (100 : UInt8), (121 : UInt8)]) false]).map (nilR RT.rel) (oAll [Ln.mk (In5.mk (0 : Int) (0 : Int) (0 : Int) (0 : Int) (0 : Int)) (ByteArray.mk #[(109 : UInt8), (97 : UInt8), (105 : UInt8), (110 : UInt8)]) ByteArray.empty false, Ln.mk (In5.mk (22 : Int) (0 : Int) (0 : Int) (0 : Int) (0 : Int)) ByteArray.empty (ByteArray.mk #[(110 : UInt8), (111 : UInt8), (98 : UInt8), (111 : UInt8), (100 : UInt8), (121 : UInt8)]) false]).cr (oAll [Ln.mk (In5.mk (0 : Int) (0 : Int) (0 : Int) (0 : Int) (0 : Int)) (ByteArray.mk #[(109 : UInt8), (97 : UInt8), (105 : UInt8), (110 : UInt8)]) ByteArray.empty false, Ln.mk (In5.mk (22 : Int) (0 : Int) (0 : Int) (0 : Int) (0 : Int)) ByteArray.empty (ByteArray.mk #[(110 : UInt8), (111 : UInt8), (98 : UInt8), (111 : UInt8), (100 : UInt8), (121 : UInt8)]) false]).sy] = nC (cC k') (cN n') ∧ (107 : Int) = wC (cC k') ∧ (!decide ((107 : Int) = (0 : Int))) = wB (cC k') ∧ (if (107 : Int) = (0 : Int) then (0 : Int) else (↑(cN n') : Int)) = wP (cC k') (cN n')))) (IT (decide (k' % 4 = (2 : Int))) (RQ (List.length [Ln.mk (In5.mk (0 : Int) (0 : Int) (0 : Int) (0 : Int) (0 : Int)) (ByteArray.mk #[(102 : UInt8), (48 : UInt8)]) ByteArray.empty false, opL (1 : Int) (nilR RT.i64)] ≤ 100000 ∧ shortN (@List.nil (RT.ty RT.u32))) (RQ (List.length (nU (cN n') (cN n')) + List.length [Ob.mk (@List.nil (RT.ty RT.u32)) (oAll [Ln.mk (In5.mk (0 : Int) (0 : Int) (0 : Int) (0 : Int) (0 : Int)) (ByteArray.mk #[(109 : UInt8), (97 : UInt8), (105 : UInt8), (110 : UInt8)]) ByteArray.empty false, Ln.mk (In5.mk (22 : Int) (0 : Int) (0 : Int) (0 : Int) (0 : Int)) ByteArray.empty (ByteArray.mk #[(102 : UInt8), (48 : UInt8)]) false]).code (oAll [Ln.mk (In5.mk (0 : Int) (0 : Int) (0 : Int) (0 : Int) (0 : Int)) (ByteArray.mk #[(109 : UInt8), (97 : UInt8), (105 : UInt8), (110 : UInt8)]) ByteArray.empty false, Ln.mk (In5.mk (22 : Int) (0 : Int) (0 : Int) (0 : Int) (0 : Int)) ByteArray.empty (ByteArray.mk #[(102 : UInt8), (48 : UInt8)]) false]).map (nilR RT.rel) (oAll [Ln.mk (In5.mk (0 : Int) (0 : Int) (0 : Int) (0 : Int) (0 : Int)) (ByteArray.mk #[(109 : UInt8), (97 : UInt8), (105 : UInt8), (110 : UInt8)]) ByteArray.empty false, Ln.mk (In5.mk (22 : Int) (0 : Int) (0 : Int) (0 : Int) (0 : Int)) ByteArray.empty (ByteArray.mk #[(102 : UInt8), (48 : UInt8)]) false]).cr (oAll [Ln.mk (In5.mk (0 : Int) (0 : Int) (0 : Int) (0 : Int) (0 : Int)) (ByteArray.mk #[(109 : UInt8), (97 : UInt8), (105 : UInt8), (110 : UInt8)]) ByteArray.empty false, Ln.mk (In5.mk (22 : Int) (0 : Int) (0 : Int) (0 : Int) (0 : Int)) ByteArray.empty (ByteArray.mk #[(102 : UInt8), (48 : UInt8)]) false]).sy, Ob.mk (@List.nil (RT.ty RT.u32)) (oAll [Ln.mk (In5.mk (0 : Int) (0 : Int) (0 : Int) (0 : Int) (0 : Int)) (ByteArray.mk #[(102 : UInt8), (48 : UInt8)]) ByteArray.empty false, opL (1 : Int) (nilR RT.i64)]).code (oAll [Ln.mk (In5.mk (0 : Int) (0 : Int) (0 : Int) (0 : Int) (0 : Int)) (ByteArray.mk #[(102 : UInt8), (48 : UInt8)]) ByteArray.empty false, opL (1 : Int) (nilR RT.i64)]).map (nilR RT.rel) (oAll [Ln.mk (In5.mk (0 : Int) (0 : Int) (0 : Int) (0 : Int) (0 : Int)) (ByteArray.mk #[(102 : UInt8), (48 : UInt8)]) ByteArray.empty false, opL (1 : Int) (nilR RT.i64)]).cr (oAll [Ln.mk (In5.mk (0 : Int) (0 : Int) (0 : Int) (0 : Int) (0 : Int)) (ByteArray.mk #[(102 : UInt8), (48 : UInt8)]) ByteArray.empty false, opL (1 : Int) (nilR RT.i64)]).sy] ≤ 137438953472) ((↑(cN n') : Int) = (↑(cN n') : Int) ∧ true = true ∧ nU (cN n') (cN n') ++ [Ob.mk (@List.nil (RT.ty RT.u32)) (oAll [Ln.mk (In5.mk (0 : Int) (0 : Int) (0 : Int) (0 : Int) (0 : Int)) (ByteArray.mk #[(109 : UInt8), (97 : UInt8), (105 : UInt8), (110 : UInt8)]) ByteArray.empty false, Ln.mk (In5.mk (22 : Int) (0 : Int) (0 : Int) (0 : Int) (0 : Int)) ByteArray.empty (ByteArray.mk #[(102 : UInt8), (48 : UInt8)]) false]).code (oAll [Ln.mk (In5.mk (0 : Int) (0 : Int) (0 : Int) (0 : Int) (0 : Int)) (ByteArray.mk #[(109 : UInt8), (97 : UInt8), (105 : UInt8), (110 : UInt8)]) ByteArray.empty false, Ln.mk (In5.mk (22 : Int) (0 : Int) (0 : Int) (0 : Int) (0 : Int)) ByteArray.empty (ByteArray.mk #[(102 : UInt8), (48 : UInt8)]) false]).map (nilR RT.rel) (oAll [Ln.mk (In5.mk (0 : Int) (0 : Int) (0 : Int) (0 : Int) (0 : Int)) (ByteArray.mk #[(109 : UInt8), (97 : UInt8), (105 : UInt8), (110 : UInt8)]) ByteArray.empty false, Ln.mk (In5.mk (22 : Int) (0 : Int) (0 : Int) (0 : Int) (0 : Int)) ByteArray.empty (ByteArray.mk #[(102 : UInt8), (48 : UInt8)]) false]).cr (oAll [Ln.mk (In5.mk (0 : Int) (0 : Int) (0 : Int) (0 : Int) (0 : Int)) (ByteArray.mk #[(109 : UInt8), (97 : UInt8), (105 : UInt8), (110 : UInt8)]) ByteArray.empty false, Ln.mk (In5.mk (22 : Int) (0 : Int) (0 : Int) (0 : Int) (0 : Int)) ByteArray.empty (ByteArray.mk #[(102 : UInt8), (48 : UInt8)]) false]).sy, Ob.mk (@List.nil (RT.ty RT.u32)) (oAll [Ln.mk (In5.mk (0 : Int) (0 : Int) (0 : Int) (0 : Int) (0 : Int)) (ByteArray.mk #[(102 : UInt8), (48 : UInt8)]) ByteArray.empty false, opL (1 : Int) (nilR RT.i64)]).code (oAll [Ln.mk (In5.mk (0 : Int) (0 : Int) (0 : Int) (0 : Int) (0 : Int)) (ByteArray.mk #[(102 : UInt8), (48 : UInt8)]) ByteArray.empty false, opL (1 : Int) (nilR RT.i64)]).map (nilR RT.rel) (oAll [Ln.mk (In5.mk (0 : Int) (0 : Int) (0 : Int) (0 : Int) (0 : Int)) (ByteArray.mk #[(102 : UInt8), (48 : UInt8)]) ByteArray.empty false, opL (1 : Int) (nilR RT.i64)]).cr (oAll [Ln.mk (In5.mk (0 : Int) (0 : Int) (0 : Int) (0 : Int) (0 : Int)) (ByteArray.mk #[(102 : UInt8), (48 : UInt8)]) ByteArray.empty false, opL (1 : Int) (nilR RT.i64)]).sy] = nC (cC k') (cN n') ∧ (106 : Int) = wC (cC k') ∧ (!decide ((106 : Int) = (0 : Int))) = wB (cC k') ∧ (if (106 : Int) = (0 : Int) then (0 : Int) else (↑(cN n') : Int) + 1) = wP (cC k') (cN n')))) ((↑(cN n') : Int) = (↑(cN n') : Int) ∧ true = true ∧ nU (cN n') (cN n') = nC (cC k') (cN n') ∧ (107 : Int) = wC (cC k') ∧ (!decide ((107 : Int) = (0 : Int))) = wB (cC k') ∧ (if (107 : Int) = (0 : Int) then (0 : Int) else (↑(cN n') : Int) - 1) = wP (cC k') (cN n')))))) ∧ ((!(decide (fcode (laidE (nC (cC k') (cN n'))) = wC (cC k')) && FErr.isPlaced (laidE (nC (cC k') (cN n'))) == wB (cC k') && decide (FErr.pos (laidE (nC (cC k') (cN n'))) = wP (cC k') (cN n')))) = true → false = true) ∧ ((!(decide (fcode (laidE (nC (cC k') (cN n'))) = wC (cC k')) && FErr.isPlaced (laidE (nC (cC k') (cN n'))) == wB (cC k') && decide (FErr.pos (laidE (nC (cC k') (cN n'))) = wP (cC k') (cN n')))) = false → RQ ((!!decide (wC (cC k') = 0) && (decide ((↑(List.length (linkI (nC (cC k') (cN n'))).code) : Int) = (↑(cN n') : Int) + 2) && decide ((↑(List.length (linkI (nC (cC k') (cN n'))).data) : Int) = (↑(cN n') : Int)) && decide ((linkI (nC (cC k') (cN n'))).entry = 2048 + (↑(cN n') : Int)))) = true → 0 ≤ (↑(cN n') : Int) + 1 ∧ (↑(cN n') : Int) + 1 < (↑(List.length (linkI (nC (cC k') (cN n'))).code) : Int)) ((!decide (wC (cC k') = 0) || decide ((↑(List.length (linkI (nC (cC k') (cN n'))).code) : Int) = (↑(cN n') : Int) + 2) && decide ((↑(List.length (linkI (nC (cC k') (cN n'))).data) : Int) = (↑(cN n') : Int)) && decide ((linkI (nC (cC k') (cN n'))).entry = 2048 + (↑(cN n') : Int)) && decide (List.getD (linkI (nC (cC k') (cN n'))).code (Int.toNat ((↑(cN n') : Int) + 1)) (RT.dflt RT.u32) = 2048)) = true)))))) := by kernel_rfl
set_option maxHeartbeats 4000000 in
theorem cLinkNames : Con ea has (G7 ++ (G9 ++ rest)) 4 kLinkNames := by
 refine plain_mkB Tryz.func4 133 (con := [(5, kfirst13), (6, kNumber), (8, kNum), (7, kAt), (13, kTo), (9, kOp), (10, kObjectRF), (11, kLinkF), (14, kNone), (15, kPlaced), (16, kSeeSame)]) ⟨cfirst13, cNumber, cNum, cAt, cTo, cOp, cObjectRF, cLinkF, cNone, cPlaced, cSeeSame, trivial⟩ (fun hA hr hv => ?_) (by kernel_rfl) (by kernel_rfl) Tryz.ntmps4
 unfold kLinkNames at hr; split at hr
 ·rename_i n' k'
  have := ret_ok hr; subst this
  refine ⟨_, [(7, LnamA (cN n'.val) k'.val), (2000025, cutL { fr := [(0, .int .i64 (.sym (cN n'.val : Int) 1 5)), (5, .bool (.lit true)), (6, .own 0), (10, .ptr 1 0)], hp := [(0, some (.recs .obj (nC (cC k'.val) (cN n'.val)))), (1, some (.cells [.int .i64 (.full (wC (cC k'.val))), .bool (.sym (wB (cC k'.val))), .int .i64 (.full (wP (cC k'.val) (cN n'.val)))]))], next := 2, sz := 133 })], rfl, rfl, .of (argLinkNames n' k') (by simp), rfl, (fun W R ρ0 own0 hown => hl1 (by kernel_rfl) (by kernel_rfl) (lnamA (cN n'.val) k'.val hown)), .of (runLinkNames rest n'.val k'.val) ?_⟩
  delta RQ IT
  clear hr
  have hN : n'.val % 5 + 1 = ((cN n'.val : Nat) : Int) ∧ 1 ≤ cN n'.val ∧ cN n'.val ≤ 5 := by unfold cN; omega
  have w1 : IntKind.i64.wrap (n'.val % 5 + 1) = ((cN n'.val : Nat) : Int) := by rw [hN.1, IntKind.wrap_i64]; omega
  have hC : k'.val % 4 = ((cC k'.val : Nat) : Int) ∧ cC k'.val < 4 := by unfold cC; omega
  rw [w1, hC.1]
  obtain ⟨_, h1, h5⟩ := hN
  obtain ⟨_, hc⟩ := hC
  generalize cN n'.val = n at *
  generalize cC k'.val = c at *
  have m0 : oAll [⟨⟨0, 0, 0, 0, 0⟩, ⟨#[109, 97, 105, 110]⟩, ByteArray.empty, false⟩, ⟨⟨22, 0, 0, 0, 0⟩, ByteArray.empty, ⟨#[102, 48]⟩, false⟩] = _ := main_mk
  have m1 : oAll [⟨⟨0, 0, 0, 0, 0⟩, ⟨#[109, 97, 105, 110]⟩, ByteArray.empty, false⟩, ⟨⟨22, 0, 0, 0, 0⟩, ByteArray.empty, ⟨#[110, 111, 98, 111, 100, 121]⟩, false⟩] = _ := nob_mk
  have m2 : oAll [⟨⟨0, 0, 0, 0, 0⟩, ⟨#[102, 48]⟩, ByteArray.empty, false⟩, opL 1 (nilR RT.i64)] = _ := one_mk
  rw [m0, m1, m2, nU_len]
  have hL := names_says ⟨h1, h5⟩ hc
  have hS := names_sees (n := n) hc
  rw [hL, hS]
  have hn : 1 ≤ n ∧ n ≤ 5 := ⟨h1, h5⟩
  have c0 : ∀ j : Nat, decide ((c : Int) = (j : Int)) = true → c = j := fun j g => by have := of_decide_eq_true g; omega
  have d0 : ∀ j : Nat, decide ((c : Int) = (j : Int)) = false → c ≠ j := fun j g => by have := of_decide_eq_false g; omega
  refine ⟨by omega, fun _ => ⟨⟨hn, rfl, ⟨by omega, by omega⟩, rfl, rfl, rfl, rfl⟩, fun _ => ⟨⟨by show 2 ≤ 100000; omega, Nat.zero_le _⟩, fun _ => ⟨⟨by omega, fun _ => ⟨fun g0 => ?_, fun g0 => ⟨fun g1 => ?_, fun g1 => ⟨fun g2 => ?_, fun g2 => ?_⟩⟩⟩⟩, fun g => absurd g (by decide), fun _ => ⟨fun g => ?_, fun _ => ?_⟩⟩⟩⟩⟩
  ·have := c0 0 g0
   subst this
   exact ⟨by show n + 1 ≤ _; omega, fun _ => ⟨rfl, rfl, rfl, rfl, rfl, rfl⟩⟩
  ·have := c0 1 g1
   subst this
   exact ⟨⟨by show 2 ≤ 100000; omega, Nat.zero_le _⟩, fun _ => ⟨by show n + 1 ≤ _; omega, fun _ => ⟨rfl, rfl, rfl, rfl, rfl, rfl⟩⟩⟩
  ·have := c0 2 g2
   subst this
   exact ⟨⟨by show 2 ≤ 100000; omega, Nat.zero_le _⟩, fun _ => ⟨by show n + 2 ≤ _; omega, fun _ => ⟨rfl, rfl, rfl, rfl, rfl, rfl⟩⟩⟩
  ·have e0 := d0 0 g0
   have e1 := d0 1 g1
   have e2 := d0 2 g2
   have : c = 3 := by omega
   subst this
   exact ⟨rfl, rfl, by unfold nC; simp, rfl, rfl, rfl⟩
  ·by_cases hz : c = 0
   ·subst hz
    obtain ⟨i1, _⟩ := names_img hn
    rw [i1]; omega
   ·exfalso
    have : wC c ≠ 0 := by unfold wC; rw [if_neg hz]; split <;> omega
    rw [decide_eq_false this] at g
    exact absurd (show false = true from g) (by decide)
  ·by_cases hz : c = 0
   ·subst hz
    obtain ⟨i1, i2, i3, i4⟩ := names_img hn
    have e : ((n : Int) + 1).toNat = n + 1 := by omega
    have i4 : (linkI (nC 0 n)).code.getD (n + 1) RT.u32.dflt = 2048 := i4
    rw [e, i1, i2, i3, i4]
    simp
   ·have : wC c ≠ 0 := by unfold wC; rw [if_neg hz]; split <;> omega
    rw [decide_eq_false this]; rfl
 ·cases hr
end
end Go.Proofs.YtacmmedhjebfjaaGreatDoor
set_option linter.unusedVariables false
set_option linter.unusedSimpArgs false
set_option maxRecDepth 100000
namespace Go.Proofs.YtacmmedhjebfjaaGreatDoor
open Go.ChangeShapes Go.RowKit Go.Sy
theorem own : ownKnob Tryz.prog.godebug = none := by kernel_rfl
theorem laidOut : laidOutB Tryz.prog = true := by kernel_rfl
section
variable {W : World} {H : Type} {enc : TypeId × Value → H} {C : Ctx} {R : Nat → Prop} {ρ : Nat → Option Value} {base : Nat} {sp : Nat → Bool} {held : Bool} {r : Reach} {b0 : Nat}
theorem open_num {v : Value} {d : DataW H} {ps : List MemPlace} (hv : Value.okWide Tryz.prog W r b0 3 v) (h : DataW.Trod enc Tryz.prog W base sp held 3 v d ps) :
  ∃ n : Int, v = .int .i64 n ∧ InI .i64 (.full n) := by
 obtain ⟨n, rfl, _, _, hw⟩ := open_int Tryz.underlying3 hv h
 exact ⟨n, rfl, wf_in hw⟩
end
def txt : DataW Unit → List UInt8
 | .iface _ (.ptr (.agg [.lit (.string s)])) => s
 | _ => []
def L16 : List Snt := [⟨"facade/api.ErrEnd", 5, 101, txt Rows.laid_facade_api_ErrEnd⟩, ⟨"facade/api.ErrShape", 3, 102, txt Rows.laid_facade_api_ErrShape⟩, ⟨"facade/api.ErrRange", 6, 103, txt Rows.laid_facade_api_ErrRange⟩, ⟨"facade/api.ErrMany", 0, 104, txt Rows.laid_facade_api_ErrMany⟩,
 ⟨"facade/api.ErrOp", 7, 105, txt Rows.laid_facade_api_ErrOp⟩, ⟨"facade/api.ErrTwice", 1, 106, txt Rows.laid_facade_api_ErrTwice⟩, ⟨"facade/api.ErrNone", 2, 107, txt Rows.laid_facade_api_ErrNone⟩, ⟨"facade/api.ErrFar", 8, 108, txt Rows.laid_facade_api_ErrFar⟩,
 ⟨"facade/api.ErrMap", 4, 109, txt Rows.laid_facade_api_ErrMap⟩, ⟨"facade/api.ErrOwner", 9, 110, txt Rows.laid_facade_api_ErrOwner⟩, ⟨"facade/api.ErrType", 10, 111, txt Rows.laid_facade_api_ErrType⟩, ⟨"facade/api.ErrBusy", 11, 112, txt Rows.laid_facade_api_ErrBusy⟩,
 ⟨"facade/api.ErrFull", 12, 113, txt Rows.laid_facade_api_ErrFull⟩, ⟨"facade/api.ErrState", 13, 114, txt Rows.laid_facade_api_ErrState⟩, ⟨"facade/api.ErrWord", 14, 115, txt Rows.laid_facade_api_ErrWord⟩, ⟨"facade/api.ErrNumber", 15, 116, txt Rows.laid_facade_api_ErrNumber⟩]
abbrev nmE : String := "*errors.errorString"
theorem star : "*" ++ "errors.errorString" = nmE := by decide
theorem err_types : ErrTypes Tryz.prog 45 178 199 9 nmE where
 hi := ⟨_, Tryz.underlying45⟩
 row := fun u h => typeName_ptr_named (nm := "errors.errorString") (by rw [star]; kernel_rfl) (by kernel_rfl) (by decide) u (by rw [star]; exact h)
 hp := Tryz.underlying178
 he := ⟨_, Tryz.underlying199, rfl, rfl⟩
 hs := Tryz.underlying9
 ce := by kernel_rfl
 cs := by kernel_rfl
theorem named_of {L : List Snt} (h : (L.all fun x => Tryz.prog.globalNamed x.name == some x.g && (Tryz.prog.globals[x.g]?).map (·.type) == some 45) = true) : ∀ x ∈ L, Tryz.prog.globalNamed x.name = some x.g ∧ (Tryz.prog.globals[x.g]?).map (·.type) = some 45 := fun x hx => by
 have := List.all_eq_true.1 h x hx
 simpa using this
end Go.Proofs.YtacmmedhjebfjaaGreatDoor
