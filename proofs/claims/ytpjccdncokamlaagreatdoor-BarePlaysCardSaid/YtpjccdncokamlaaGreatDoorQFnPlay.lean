/- Contracts. -/
import Derived.Test.YtpjccdncokamlaaGreatDoorQFnPlays
import Derived.Test.YtpjccdncokamlaaGreatDoorQFnMemG
import Derived.Test.YtpjccdncokamlaaGreatDoorQFnFst8b
import Derived.Test.YtpjccdncokamlaaGreatDoorQPlaysP
set_option maxHeartbeats 4000000
set_option linter.unusedVariables false
set_option linter.unusedSimpArgs false
namespace Go.Proofs.YtpjccdncokamlaaGreatDoor
open Go.RowKit Go.Sy Go.Fac
section
variable {ea : Ear} {has : Int → Prop} {rest : List (Nat × SVal)}
def kbNewE : List SVal → Nat → Acc ORes := fun a n => match a with | [.ptr z 0, .agg [.arr .u32 16 x, .int .u32 pc, .bool ie, .bool eie, .int .u32 epc, .int .u32 tv, .int .u32 ca, .int .u32 ad], .int .i64 qu] => .ret ({ v := .tuple [.nilptr, .err (.bare 103)], vc := some (qu.val < 17) }) | _ => .fail "bNewE"
theorem argbNewE (z : Nat) (x : List Int) (pc : SI) (ie eie : SB) (epc tv ca ad : SI) (qu : SI) : (all (subL tAtN none' [] deep [.ptr z 0, .agg [.arr .u32 16 x, .int .u32 pc, .bool ie, .bool eie, .int .u32 epc, .int .u32 tv, .int .u32 ca, .int .u32 ad], .int .i64 qu] [.any, .agg (⟨x, pc.val, ie.val, eie.val, epc.val, tv.val, ca.val, ad.val⟩ : Cpu).enc, .int .i64 (.full qu.val)])) = (
  x = x ∧ SI.val pc = SI.val pc ∧ SB.val ie = SB.val ie ∧ SB.val eie = SB.val eie ∧ SI.val epc = SI.val epc ∧ SI.val tv = SI.val tv ∧ SI.val ca = SI.val ca ∧ SI.val ad = SI.val ad ∧ SI.val qu = SI.val qu) := by kernel_rfl
abbrev TbNewE (rest : List (Nat × SVal)) (p : Cpu) (qu : Int) : Prop := Tr.sat (plainQ (.tuple [.nilptr, .err (.bare 103)])) (run (env (G7 ++ (G9 ++ rest)) []) [(3000000, cutL { fr := [(2, .int .i64 (.lit (.ofNat 17)))], hp := [], next := 0, sz := 23 })] (bodyOf Tryz.f6) (start [.any, .agg p.enc, .int .i64 (.full qu)] 23) (ends (env (G7 ++ (G9 ++ rest)) []) Tryz.f6.results.toList))
theorem runbNewE (rest : List (Nat × SVal)) (p : Cpu) (qu : Int) : (TbNewE rest p qu) = (
  IT (decide (qu < Int.ofNat (17 : Nat))) (FErr.bare (103 : Int) = FErr.bare (103 : Int)) (IT (decide ((256 : Int) < qu)) (FErr.bare (103 : Int) = FErr.bare (103 : Int)) False)) := by kernel_rfl
theorem gbNewE (p : Cpu) (qu : Int)  (hv : qu < 17) : Box (TbNewE rest p qu) := by
  refine .of (runbNewE rest p qu) ?_
  delta IT
  have t : Int.ofNat 17 = 17 := rfl
  rw [t]
  exact ⟨fun _ => rfl, fun h => absurd hv (of_decide_eq_false h)⟩
theorem cbNewE : Con ea has (G7 ++ (G9 ++ rest)) 6 kbNewE := by
  refine plain_mkB Tryz.func6 23 (con := []) trivial (fun hA hr hv => ?_) (by kernel_rfl) (by kernel_rfl) Tryz.ntmps6
  unfold kbNewE at hr; split at hr
  · rename_i z x pc ie eie epc tv ca ad qu
    have := ret_ok hr; subst this
    replace hv := hv _ rfl
    exact ⟨_, [(3000000, cutL { fr := [(2, .int .i64 (.lit (.ofNat 17)))], hp := [], next := 0, sz := 23 })], rfl, rfl, .of (argbNewE z x pc ie eie epc tv ca ad qu) (by simp), rfl, (fun W R ρ0 own0 hown => noSums (by kernel_rfl)), gbNewE ⟨x, pc.val, ie.val, eie.val, epc.val, tv.val, ca.val, ad.val⟩ qu.val  hv⟩
  · cases hr
def selQ : List SVal → Acc Bool
  | [_, _, .int .i64 (.sym _ lo _)] => .ret (leB 17 lo)
  | _ => .ret false
abbrev kbNewQ := joinK selQ kbNewAB kbNewE
theorem cbNewQ : Con ea has (G7 ++ (G9 ++ rest)) 6 kbNewQ := joinK_ok (cbNewAB (gl := (G7 ++ (G9 ++ rest)))) cbNewE selQ
abbrev mHpA (o : Nat) (b : Mc) : List (Nat × Option Cont) := [(o, some (.cells [.ptr (o + 1) 0, .arr .u32 16 b.c.r, .int .u32 (.full b.c.pc), .bool (.sym b.c.ie), .bool (.sym b.c.eie), .int .u32 (.full b.c.epc), .int .u32 (.full b.c.tv), .int .u32 (.full b.c.cause), .int .u32 (.full b.c.addr), .ptr (o + 2) 0, .int .i64 (.full b.quota), .int .i64 (.full b.now), .bool (.sym b.over), .own (o + 4)])), (o + 1, some (.cells [.own (o + 3)])), (o + 2, some (.cells (dCells (o + 5) (o + 6) b.d))), (o + 3, some (.recs .u32 b.l)), (o + 4, some (.recs updT b.w)), (o + 5, some (.recs .u32 b.d.keys)), (o + 6, some (.recs seenT b.d.seen))]
abbrev eHpA (o : Nat) (b : Mc) : List (Nat × Option Cont) := [(o, some (.cells [.ptr (o + 1) 0, .arr .u32 16 b.c.r, .int .u32 (.full b.c.pc), .bool (.sym b.c.ie), .bool (.sym b.c.eie), .int .u32 (.full b.c.epc), .int .u32 (.full b.c.tv), .int .u32 (.full b.c.cause), .int .u32 (.full b.c.addr), .int .i64 (.full b.quota), .ptr (o + 2) 0, .int .i64 (.full b.now), .bool (.sym b.over), .own (o + 4)])), (o + 1, some (.cells [.own (o + 3)])), (o + 2, some (.cells (eCells (o + 5) (o + 6) b.d))), (o + 3, some (.recs .u32 b.l)), (o + 4, some (.recs updT b.w)), (o + 5, some (.recs .u32 b.d.keys)), (o + 6, some (.recs seenT b.d.seen))]
def nrP (b : Mc) : Mc := hide (nrmM b)
theorem nrP_def (b : Mc) : nrP b = nrmM b := hide_eq _
theorem mc_eqX {a b : Mc} {P : Prop} (h : a = b) (hp : P) : a.c.r = b.c.r ∧ a.c.pc = b.c.pc ∧ a.c.ie = b.c.ie ∧ a.c.eie = b.c.eie ∧ a.c.epc = b.c.epc ∧ a.c.tv = b.c.tv ∧ a.c.cause = b.c.cause ∧ a.c.addr = b.c.addr ∧ a.quota = b.quota ∧ a.now = b.now ∧ a.over = b.over ∧
    a.d.sec = b.d.sec ∧ a.d.on = b.d.on ∧ a.d.at_ = b.d.at_ ∧ a.l = b.l ∧ a.w = b.w ∧ a.d.keys = b.d.keys ∧ a.d.seen = b.d.seen ∧ P := by
  subst h; exact ⟨rfl, rfl, rfl, rfl, rfl, rfl, rfl, rfl, rfl, rfl, rfl, rfl, rfl, rfl, rfl, rfl, rfl, rfl, hp⟩
theorem mc_of {n : Nat} {b : Mc} (h : McI n b) (hn : n ≤ 1000000) : mcOk b := by
  refine ⟨?_, ?_, ?_, h.upd⟩
  · have := h.keys; unfold few; omega
  · have := h.seen; unfold few; omega
  · have := h.w; unfold few; omega
theorem press_1 {keys : List Int} {i : Nat} {Y : Mc} (h : prIs keys i = true) : ({ nrP Y with d := dPress (nrP Y).d (keys.getD i 0) } : Mc) = nrP (prY keys i Y) ∧ ({ Y with d := dPress Y.d (keys.getD i 0) } : Mc) = prY keys i Y := by
  rw [nrP_def, nrP_def, prY_def]; unfold prY0; rw [if_pos h]
  refine ⟨?_, rfl⟩
  show ({ nrmM Y with d := dPress (nrmD Y.d) (keys.getD i 0) } : Mc) = _
  rw [nrm_press]; rfl
theorem press_0 {keys : List Int} {i : Nat} {Y : Mc} (h : prIs keys i = false) : nrP Y = nrP (prY keys i Y) ∧ Y = prY keys i Y := by
  have e : prY keys i Y = Y := by rw [prY_def]; unfold prY0; rw [if_neg (by rw [h]; simp)]
  rw [e]; exact ⟨rfl, rfl⟩
def Hplays' (y0 : Mc) (keys : List Int) (st : Int) (i : Nat) : SState := { fr := [(4, .ro .u32 keys), (5, .int .i64 (.full st)), (13, .bool (.lit true)), (16, .ptr 0 0), (18, .ptr 7 0), (19, .int .i64 (.sym i 0 80))], hp := mHpA 0 (nrP (plY y0 keys i)) ++ eHpA 7 (plY y0 keys i), next := 14, sz := 148 }
def Xplays' (y0 : Mc) (keys : List Int) (st : Int) : SState := { fr := [(13, .bool (.lit true))], hp := [], next := 0, sz := 148 }
def Lplays' (y0 : Mc) (keys : List Int) (st : Int) : LSum := ⟨Hplays' y0 keys st 0, fun k => k (.exit 0) (Xplays' y0 keys st), McI 0 y0 ∧ (few y0.l ∧ y0.l.length % 16 = 0) ∧ y0.now = 0 ∧ keys.length ≤ 80 ∧ st ≤ 80⟩
theorem bplays' (rest : List (Nat × SVal)) (y0 : Mc) (keys : List Int) (st : Int) (i : Nat) : (Tr.sat (rnd1 (env (G7 ++ (G9 ++ rest)) [(4, kfirst8), (5, kmemGF), (6, kbNewQ), (7, kSeeIs), (8, keNewB), (9, kbPress), (10, krPress), (11, kbClone), (12, kbStep), (13, keStep), (14, ksame8), (15, kbNow), (16, kwhole8)]) (fun _ => True) (st.toNat) (Hplays' y0 keys st) 0 (Xplays' y0 keys st) i) (run (env (G7 ++ (G9 ++ rest)) [(4, kfirst8), (5, kmemGF), (6, kbNewQ), (7, kSeeIs), (8, keNewB), (9, kbPress), (10, krPress), (11, kbClone), (12, kbStep), (13, keStep), (14, ksame8), (15, kbNow), (16, kwhole8)]) [(4000018, cutL { fr := [(4, .any), (12, .any), (28, .any)], hp := [], next := 0, sz := 148 }), (2000020, cutL { fr := [(4, .ro .u32 keys), (5, .int .i64 (.full st)), (13, .bool (.lit true)), (16, .ptr 0 0), (18, .ptr 7 0), (19, .int .i64 (.sym i 0 80))], hp := mHpA 0 (nrP (prY keys i (plY y0 keys i))) ++ eHpA 7 (prY keys i (plY y0 keys i)), next := 14, sz := 148 }), (4000021, cutL { fr := [(5, .any)], hp := [], next := 0, sz := 148 }), (4000023, cutL { fr := [(5, .any)], hp := [], next := 0, sz := 148 })] (loopN (bodyOf Tryz.f3) 0) (Hplays' y0 keys st i) .leaf)) = (
  IT (decide ((i : Int) < st)) ((IT (decide ((i : Int) < ((List.length keys) : Int))) (IT (decide (List.getD keys (Int.toNat (i : Int)) (RT.dflt RT.u32) % Int.ofNat (nat_lit 2 + (1 : Nat)) = 0)) (IT (!dPressB (nrP (plY y0 keys i)).d == dPressB (plY y0 keys i).d) (RQ (True ∧ decide ((i : Int) < ((List.length keys) : Int)) = true) (RQ (0 ≤ (i : Int) ∧ (i : Int) < ((List.length keys) : Int)) (RQ (True ∧ decide (List.getD keys (Int.toNat (i : Int)) (RT.dflt RT.u32) % Int.ofNat (nat_lit 2 + (1 : Nat)) = 0) = true) (RQ (0 ≤ (i : Int) ∧ (i : Int) < ((List.length keys) : Int)) (RQ (0 ≤ (i : Int) ∧ (i : Int) < ((List.length keys) : Int)) (RQ (True ∧ (!dPressB (nrP (plY y0 keys i)).d == dPressB (plY y0 keys i).d) = true) False)))))) (RQ (True ∧ decide ((i : Int) < ((List.length keys) : Int)) = true) (RQ (0 ≤ (i : Int) ∧ (i : Int) < ((List.length keys) : Int)) (RQ (True ∧ decide (List.getD keys (Int.toNat (i : Int)) (RT.dflt RT.u32) % Int.ofNat (nat_lit 2 + (1 : Nat)) = 0) = true) (RQ (0 ≤ (i : Int) ∧ (i : Int) < ((List.length keys) : Int)) (RQ (0 ≤ (i : Int) ∧ (i : Int) < ((List.length keys) : Int)) (RQ (True ∧ (!dPressB (nrP (plY y0 keys i)).d == dPressB (plY y0 keys i).d) = false) (keys = keys ∧ st = st ∧ true = true ∧ (i : Int) = (i : Int) ∧ EgMX ((nrP (plY y0 keys i)).c) (dPress (nrP (plY y0 keys i)).d (List.getD keys (Int.toNat (i : Int)) (RT.dflt RT.u32))) ((nrP (plY y0 keys i)).l) ((nrP (plY y0 keys i)).quota) ((nrP (plY y0 keys i)).now) ((nrP (plY y0 keys i)).over) ((nrP (plY y0 keys i)).w) (nrP (prY keys i (plY y0 keys i))) (EgE ((plY y0 keys i).c) (dPress (plY y0 keys i).d (List.getD keys (Int.toNat (i : Int)) (RT.dflt RT.u32))) ((plY y0 keys i).l) ((plY y0 keys i).quota) ((plY y0 keys i).now) ((plY y0 keys i).over) ((plY y0 keys i).w) (prY keys i (plY y0 keys i))))))))))) (RQ (True ∧ decide ((i : Int) < ((List.length keys) : Int)) = true) (RQ (0 ≤ (i : Int) ∧ (i : Int) < ((List.length keys) : Int)) (RQ (True ∧ decide (List.getD keys (Int.toNat (i : Int)) (RT.dflt RT.u32) % Int.ofNat (nat_lit 2 + (1 : Nat)) = 0) = false) (keys = keys ∧ st = st ∧ true = true ∧ (i : Int) = (i : Int) ∧ EqMX (nrP (plY y0 keys i)) (nrP (prY keys i (plY y0 keys i))) (EqE (plY y0 keys i) (prY keys i (plY y0 keys i)))))))) (RQ (True ∧ decide ((i : Int) < ((List.length keys) : Int)) = false) (keys = keys ∧ st = st ∧ true = true ∧ (i : Int) = (i : Int) ∧ EqMX (nrP (plY y0 keys i)) (nrP (prY keys i (plY y0 keys i))) (EqE (plY y0 keys i) (prY keys i (plY y0 keys i)))))) ∧ RQ ((few (nrP (prY keys i (plY y0 keys i))).l ∧ few (nrP (prY keys i (plY y0 keys i))).d.keys) ∧ few (nrP (prY keys i (plY y0 keys i))).d.seen ∧ few (nrP (prY keys i (plY y0 keys i))).w) (IT (!(!(nrP (prY keys i (plY y0 keys i))).over) == !(prY keys i (plY y0 keys i)).over) (RQ (mcOk (nrP (prY keys i (plY y0 keys i))) ∧ few (nrP (prY keys i (plY y0 keys i))).l) (RQ (mcOk (prY keys i (plY y0 keys i)) ∧ few (prY keys i (plY y0 keys i)).l ∧ List.length (prY keys i (plY y0 keys i)).l % 16 = (0 : Nat)) (RQ (True ∧ (!(!(nrP (prY keys i (plY y0 keys i))).over) == !(prY keys i (plY y0 keys i)).over) = true) False))) (RQ (mcOk (nrP (prY keys i (plY y0 keys i))) ∧ few (nrP (prY keys i (plY y0 keys i))).l) (RQ (mcOk (prY keys i (plY y0 keys i)) ∧ few (prY keys i (plY y0 keys i)).l ∧ List.length (prY keys i (plY y0 keys i)).l % 16 = (0 : Nat)) (RQ (True ∧ (!(!(nrP (prY keys i (plY y0 keys i))).over) == !(prY keys i (plY y0 keys i)).over) = false) (RQ (stepM true (nrP (prY keys i (plY y0 keys i))) = nrmM (stepM false (prY keys i (plY y0 keys i))) ∧ mcOk (stepM false (prY keys i (plY y0 keys i))) ∧ few (stepM false (prY keys i (plY y0 keys i))).l) (IT (decide ((stepM true (nrP (prY keys i (plY y0 keys i)))).now < (nrP (prY keys i (plY y0 keys i))).now)) (RQ (True ∧ decide ((stepM true (nrP (prY keys i (plY y0 keys i)))).now < (nrP (prY keys i (plY y0 keys i))).now) = true) False) (RQ (True ∧ decide ((stepM true (nrP (prY keys i (plY y0 keys i)))).now < (nrP (prY keys i (plY y0 keys i))).now) = false) (RQ (stepM true (nrP (prY keys i (plY y0 keys i))) = nrmM (stepM false (prY keys i (plY y0 keys i))) ∧ few (stepM false (prY keys i (plY y0 keys i))).l ∧ List.length (stepM false (prY keys i (plY y0 keys i))).l % 16 = (0 : Nat)) (i < Int.toNat st ∧ True ∧ keys = keys ∧ st = st ∧ true = true ∧ (i : Int) + 1 = ((i + 1) : Int) ∧ (0 ≤ ((i + 1) : Int) ∧ ((i + 1) : Int) ≤ 80) ∧ EqMX (stepM true (nrP (prY keys i (plY y0 keys i)))) (nrP (plY y0 keys (i + 1))) (EqE (stepM false (prY keys i (plY y0 keys i))) (plY y0 keys (i + 1))))))))))))) (Nat.beq (0 : Nat) (0 : Nat) = true ∧ true = true)) := by kernel_rfl
theorem lplays' (y0 : Mc) (keys : List Int) (st : Int) {W : World} {R own0 : Nat → Prop} {ρ0 : Nat → Option Value} (hown : HownOk (env (G7 ++ (G9 ++ rest)) [(4, kfirst8), (5, kmemGF), (6, kbNewQ), (7, kSeeIs), (8, keNewB), (9, kbPress), (10, krPress), (11, kbClone), (12, kbStep), (13, keStep), (14, ksame8), (15, kbNow), (16, kwhole8)]) own0 ρ0) : LOk Tryz.prog (env (G7 ++ (G9 ++ rest)) [(4, kfirst8), (5, kmemGF), (6, kbNewQ), (7, kSeeIs), (8, keNewB), (9, kbPress), (10, krPress), (11, kbClone), (12, kbStep), (13, keStep), (14, ksame8), (15, kbNow), (16, kwhole8)]) (ctx ea has) (G7 ++ (G9 ++ rest)) W R own0 ρ0 (loopN (bodyOf Tryz.f3) 0) (Lplays' y0 keys st) := by
  refine loop1_ok (J := fun _ => True) (N := st.toNat) (H := Hplays' y0 keys st) (X := Xplays' y0 keys st) (env_ok (con := [(4, kfirst8), (5, kmemGF), (6, kbNewQ), (7, kSeeIs), (8, keNewB), (9, kbPress), (10, krPress), (11, kbClone), (12, kbStep), (13, keStep), (14, ksame8), (15, kbNow), (16, kwhole8)]) ⟨cfirst8, cmemGF, cbNewQ, cSeeIs, ceNewB, cbPress, crPress, cbClone, cbStep, ceStep, csame8, cbNow, cwhole8, trivial⟩) hown (ls := fun i => [(4000018, cutL { fr := [(4, .any), (12, .any), (28, .any)], hp := [], next := 0, sz := 148 }), (2000020, cutL { fr := [(4, .ro .u32 keys), (5, .int .i64 (.full st)), (13, .bool (.lit true)), (16, .ptr 0 0), (18, .ptr 7 0), (19, .int .i64 (.sym i 0 80))], hp := mHpA 0 (nrP (prY keys i (plY y0 keys i))) ++ eHpA 7 (prY keys i (plY y0 keys i)), next := 14, sz := 148 }), (4000021, cutL { fr := [(5, .any)], hp := [], next := 0, sz := 148 }), (4000023, cutL { fr := [(5, .any)], hp := [], next := 0, sz := 148 })]) (fun i => noSums (by kernel_rfl)) (fun hm i hi hj => ?_) 0 (fun hm => by first | exact Nat.zero_le _ | omega) (fun hm => trivial)
  rw [bplays' rest y0 keys st i]
  delta RQ IT EqMX EqE EgMX EgE
  obtain ⟨m0, ⟨fl, f16⟩, hn, hk, hs⟩ := hm
  have hi80 : i ≤ 80 := by omega
  have d0 : RT.dflt RT.u32 = (0 : Int) := rfl
  have n3 : Int.ofNat (2 + 1) = 3 := rfl
  have M := press_fit (plY_ok m0 keys i) keys i
  have S := M.iter (p := false) 1
  have e1 : iterM false (prY keys i (plY y0 keys i)) 1 = plY y0 keys (i + 1) := rfl
  rw [e1] at S
  obtain ⟨pl, pn, po⟩ := pr_rest keys i (plY y0 keys i)
  have L0 := plY_len y0 keys i
  have L1 := plY_len y0 keys (i + 1)
  have N0 := plY_now hn keys i (by omega)
  have N1 := plY_now hn keys (i + 1) (by omega)
  have W := step_now false (prY keys i (plY y0 keys i))
  have E : stepM true (nrP (prY keys i (plY y0 keys i))) = nrmM (plY y0 keys (i + 1)) := by rw [nrP_def, nrm_step]; rfl
  have e2 : stepM false (prY keys i (plY y0 keys i)) = plY y0 keys (i + 1) := rfl
  have eC : ∀ c : Cpu, (⟨c.r, c.pc, c.ie, c.eie, c.epc, c.tv, c.cause, c.addr⟩ : Cpu) = c := fun _ => rfl
  have eD : ∀ d : Dv, (⟨d.keys, d.sec, d.on, d.at_, d.seen⟩ : Dv) = d := fun _ => rfl
  have eM : ∀ b : Mc, (⟨b.l, b.c, b.d, b.quota, b.now, b.over, b.w⟩ : Mc) = b := fun _ => rfl
  simp only [eC, eD, eM]
  rw [E, e2]
  rw [e2] at W
  have p1 := press_1 (keys := keys) (i := i) (Y := plY y0 keys i)
  have p0 := press_0 (keys := keys) (i := i) (Y := plY y0 keys i)
  have pb : ∀ Y : Mc, dPressB (nrP Y).d = dPressB Y.d := fun Y => by rw [nrP_def]; rfl
  simp only [Int.toNat_natCast, d0, n3, pb]
  generalize plY y0 keys (i + 1) = Z at *
  generalize hY : plY y0 keys i = Y at *
  generalize hP : prY keys i Y = P at *
  have mP : mcOk P := mc_of M (by omega)
  have mZ : mcOk Z := mc_of S (by omega)
  have fP : few P.l := by unfold few at *; rw [pl, L0]; exact fl
  have tP : P.l.length % 16 = 0 := by rw [pl, L0]; exact f16
  have fZ : few Z.l := by unfold few at *; rw [L1]; exact fl
  have tZ : Z.l.length % 16 = 0 := by rw [L1]; exact f16
  have aP : (nrP P).l = P.l ∧ (nrP P).d.keys = P.d.keys ∧ (nrP P).d.seen = P.d.seen ∧ (nrP P).w = P.w ∧ (nrP P).over = P.over ∧ (nrP P).now = P.now := by rw [nrP_def]; exact ⟨rfl, rfl, rfl, rfl, rfl, rfl⟩
  have mN : mcOk (nrP P) ∧ few (nrP P).l := by rw [nrP_def]; exact ⟨mP, fP⟩
  have cl : (few (nrP P).l ∧ few (nrP P).d.keys) ∧ few (nrP P).d.seen ∧ few (nrP P).w := by rw [nrP_def]; exact ⟨⟨fP, mP.1⟩, mP.2.1, mP.2.2.1⟩
  have pr1 : ∀ h1 : decide ((i : Int) < (keys.length : Int)) = true, ∀ h2 : decide (keys.getD i 0 % 3 = 0) = true, prIs keys i = true := fun h1 h2 => by unfold prIs; rw [h1, h2]; rfl
  have nP : (nrP P).now = Y.now := by rw [aP.2.2.2.2.2, pn]
  have nZ : (nrmM Z).now = Z.now := rfl
  have ff : ∀ h1 : decide ((i : Int) < (keys.length : Int)) = true, (0 : Int) ≤ (i : Int) ∧ (i : Int) < (keys.length : Int) := fun h1 => ⟨by omega, of_decide_eq_true h1⟩
  refine ⟨fun h => ⟨⟨fun h1 => ⟨fun h2 => ⟨fun h3 => ?_, fun h3 => ⟨⟨trivial, h1⟩, fun _ => ⟨ff h1, fun _ => ⟨⟨trivial, h2⟩, fun _ => ⟨ff h1, fun _ => ⟨ff h1, fun _ => ⟨⟨trivial, h3⟩, fun _ => ⟨trivial, trivial, trivial, trivial, ?_⟩⟩⟩⟩⟩⟩⟩⟩, fun h2 => ⟨⟨trivial, h1⟩, fun _ => ⟨ff h1, fun _ => ⟨⟨trivial, h2⟩, fun _ => ⟨trivial, trivial, trivial, trivial, ?_⟩⟩⟩⟩⟩, fun h1 => ⟨⟨trivial, h1⟩, fun _ => ⟨trivial, trivial, trivial, trivial, ?_⟩⟩⟩, cl, fun _ => ⟨fun g => ?_, fun g => ⟨mN, fun _ => ⟨⟨mP, fP, tP⟩, fun _ => ⟨⟨trivial, g⟩, fun _ => ⟨⟨trivial, mZ, fZ⟩, fun _ => ⟨fun q => ?_, fun q => ⟨⟨trivial, q⟩, fun _ => ⟨⟨trivial, fZ, tZ⟩, fun _ => ⟨?_, trivial, trivial, trivial, trivial, ?_, ⟨?_, ?_⟩, ?_⟩⟩⟩⟩⟩⟩⟩⟩⟩⟩, fun _ => ⟨rfl, trivial⟩⟩
  · simp at h3
  · have q := p1 (pr1 h1 h2)
    have X := mc_eqX q.1 (ec_eq q.2)
    exact X
  · have q := p0 (by unfold prIs; rw [h2, Bool.and_false])
    have X := mc_eqX q.1 (ec_eq q.2)
    exact X
  · have q := p0 (by unfold prIs; rw [h1, Bool.false_and])
    have X := mc_eqX q.1 (ec_eq q.2)
    exact X
  · rw [aP.2.2.2.2.1] at g; simp at g
  · exfalso
    have q := of_decide_eq_true q
    rw [nP, nZ] at q
    rcases W with W | W
    · omega
    · rw [IntKind.wrap_i64] at W; omega
  · have h := of_decide_eq_true h; omega
  · omega
  · omega
  · have h := of_decide_eq_true h; omega
  · have X := mc_eqX (nrP_def Z).symm (⟨trivial, trivial, trivial, trivial, trivial, trivial, trivial, trivial, trivial, trivial, trivial, trivial, trivial, trivial, trivial, trivial, trivial, trivial⟩ : True ∧ True ∧ True ∧ True ∧ True ∧ True ∧ True ∧ True ∧ True ∧ True ∧ True ∧ True ∧ True ∧ True ∧ True ∧ True ∧ True ∧ True)
    exact X
def newY (q : Int) (data code : List Int) (c : Cpu) : Mc := hide ⟨mem8 (bif decide (q < 17) then 17 else q) data code, c, Dv.nul, q, 0, false, []⟩
theorem newY_def (q : Int) (data code : List Int) (c : Cpu) : newY q data code c = ⟨mem8 (bif decide (q < 17) then 17 else q) data code, c, Dv.nul, q, 0, false, []⟩ := hide_eq _
def kBarePlays : List SVal → Nat → Acc ORes := fun a n => match a with | [.int .i64 q, .ro .u32 data, .ro .u32 code, .agg [.arr .u32 16 x, .int .u32 pc, .bool ie, .bool eie, .int .u32 epc, .int .u32 tv, .int .u32 ca, .int .u32 ad], .ro .u32 keys, .int .i64 st] => .ret ({ v := .bool (.lit true) }) | _ => .fail "BarePlays"
theorem argBarePlays (q : SI) (data code : List Int) (x : List Int) (pc : SI) (ie eie : SB) (epc tv ca ad : SI) (keys : List Int) (st : SI) : (all (subL tAtN none' [] deep [.int .i64 q, .ro .u32 data, .ro .u32 code, .agg [.arr .u32 16 x, .int .u32 pc, .bool ie, .bool eie, .int .u32 epc, .int .u32 tv, .int .u32 ca, .int .u32 ad], .ro .u32 keys, .int .i64 st] [.int .i64 (.full q.val), .ro .u32 data, .ro .u32 code, .agg (⟨x, pc.val, ie.val, eie.val, epc.val, tv.val, ca.val, ad.val⟩ : Cpu).enc, .ro .u32 keys, .int .i64 (.full st.val)])) = (
  SI.val q = SI.val q ∧ data = data ∧ code = code ∧ x = x ∧ SI.val pc = SI.val pc ∧ SB.val ie = SB.val ie ∧ SB.val eie = SB.val eie ∧ SI.val epc = SI.val epc ∧ SI.val tv = SI.val tv ∧ SI.val ca = SI.val ca ∧ SI.val ad = SI.val ad ∧ keys = keys ∧ SI.val st = SI.val st) := by kernel_rfl
abbrev TBarePlays (rest : List (Nat × SVal)) (q : Int) (data code : List Int) (p : Cpu) (keys : List Int) (st : Int) : Prop := Tr.sat (plainQ (.bool (.lit true))) (run (env (G7 ++ (G9 ++ rest)) [(4, kfirst8), (5, kmemGF), (6, kbNewQ), (7, kSeeIs), (8, keNewB), (9, kbPress), (10, krPress), (11, kbClone), (12, kbStep), (13, keStep), (14, ksame8), (15, kbNow), (16, kwhole8)]) [(3000006, cutL { fr := [(0, .int .i64 (.lit (.ofNat 17)))], hp := [], next := 0, sz := 148 }), (1000014, cutL { fr := [(4, .ro .u32 keys), (5, .int .i64 (.full st)), (13, .bool (.lit true)), (16, .ptr 0 0), (18, .ptr 7 0)], hp := mHpA 0 (nrP (newY q data code p)) ++ eHpA 7 (newY q data code p), next := 14, sz := 148 }), (16, Lplays' (newY q data code p) keys st)] (bodyOf Tryz.f3) (start [.int .i64 (.full q), .ro .u32 data, .ro .u32 code, .agg p.enc, .ro .u32 keys, .int .i64 (.full st)] 148) (ends (env (G7 ++ (G9 ++ rest)) [(4, kfirst8), (5, kmemGF), (6, kbNewQ), (7, kSeeIs), (8, keNewB), (9, kbPress), (10, krPress), (11, kbClone), (12, kbStep), (13, keStep), (14, ksame8), (15, kbNow), (16, kwhole8)]) Tryz.f3.results.toList))
theorem runBarePlays (rest : List (Nat × SVal)) (q : Int) (data code : List Int) (p : Cpu) (keys : List Int) (st : Int) : (TBarePlays rest q data code p keys st) = (
  IT (decide ((200 : Int) < ((List.length code) : Int)) || decide ((48 : Int) < ((List.length data) : Int)) || decide ((80 : Int) < ((List.length keys) : Int)) || decide ((80 : Int) < st) || decide ((40 : Int) < q)) (true = true) (RQ ((((17 : Int) ≤ bif decide (q < 17) then (17 : Int) else q) ∧ (bif decide (q < 17) then (17 : Int) else q) ≤ 256) ∧ few data ∧ few code) (IT (decide (q < Int.ofNat (17 : Nat))) (RQ (q < 17) (true = true)) (RQ (((17 : Int) ≤ q ∧ q ≤ 256) ∧ few (mem8 (bif decide (q < 17) then (17 : Int) else q) data code)) (IT (decide ((256 : Int) < q)) (false = true) (RQ (few (mem8 (bif decide (q < 17) then (17 : Int) else q) data code)) (RQ (keys = keys ∧ st = st ∧ true = true ∧ EgMX p Dv.nul (mem8 (bif decide (q < 17) then (17 : Int) else q) data code) q (0 : Int) false (@List.nil (Int × Int)) (nrP (newY q data code p)) (EgE p Dv.nul (mem8 (bif decide (q < 17) then (17 : Int) else q) data code) q (0 : Int) false (@List.nil (Int × Int)) (newY q data code p))) (RQ ((McI (0 : Nat) (newY q data code p) ∧ (few (newY q data code p).l ∧ List.length (newY q data code p).l % 16 = (0 : Nat)) ∧ (newY q data code p).now = 0 ∧ List.length keys ≤ 80 ∧ st ≤ 80) ∧ keys = keys ∧ st = st ∧ true = true ∧ (0 : Int) = ((0 : Nat) : Int) ∧ EqMX (nrP (newY q data code p)) (nrP (plY (newY q data code p) keys (0 : Nat))) (EqE (newY q data code p) (plY (newY q data code p) keys (0 : Nat)))) (true = true))))))))) := by kernel_rfl
theorem gBarePlays (q : Int) (data code : List Int) (p : Cpu) (keys : List Int) (st : Int)  : Box (TBarePlays rest q data code p keys st) := by
  refine .of (runBarePlays rest q data code p keys st) ?_
  delta RQ IT EqMX EqE EgMX EgE
  have t : Int.ofNat 17 = 17 := rfl
  rw [t]
  refine ⟨fun _ => rfl, fun h => ?_⟩
  simp only [Bool.or_eq_false_iff, decide_eq_false_iff_not] at h
  obtain ⟨⟨⟨⟨h1, h2⟩, h3⟩, h4⟩, h5⟩ := h
  have hq : 17 ≤ (bif decide (q < 17) then 17 else q) ∧ (bif decide (q < 17) then 17 else q) ≤ 40 := by
    by_cases g : q < 17
    · rw [decide_eq_true g]; exact ⟨Int.le_refl 17, by show (17 : Int) ≤ 40; decide⟩
    · rw [decide_eq_false g]; exact ⟨by show 17 ≤ q; omega, by show q ≤ 40; omega⟩
  have N : newY q data code p = ⟨mem8 (bif decide (q < 17) then 17 else q) data code, p, Dv.nul, q, 0, false, []⟩ := newY_def q data code p
  have NN : (⟨mem8 (bif decide (q < 17) then 17 else q) data code, p, Dv.nul, q, 0, false, []⟩ : Mc) = nrP (newY q data code p) := by rw [nrP_def, N]; rfl
  generalize (bif decide (q < 17) then 17 else q) = z at *
  have fd : few data := by unfold few; omega
  have fc : few code := by unfold few; omega
  have lm : (mem8 z data code).length = ((z + 16) * 16).toNat := mem8_len _ _ _
  have fm : few (mem8 z data code) := by unfold few; omega
  refine ⟨⟨⟨hq.1, by omega⟩, fd, fc⟩, fun _ => ⟨fun g => ⟨of_decide_eq_true g, fun _ => rfl⟩, fun g => ?_⟩⟩
  have g := of_decide_eq_false g
  have m0 : McI 0 (newY q data code p) := by
    rw [N]
    exact ⟨Nat.le_refl _, Nat.zero_le _, Nat.zero_le _, by show updOk []; unfold updOk; simp⟩
  have hyp : McI 0 (newY q data code p) ∧ (few (newY q data code p).l ∧ (newY q data code p).l.length % 16 = 0) ∧ (newY q data code p).now = 0 ∧ keys.length ≤ 80 ∧ st ≤ 80 := by
    refine ⟨m0, ⟨?_, ?_⟩, ?_, by omega, by omega⟩
    · rw [N]; exact fm
    · rw [N]; show (mem8 z data code).length % 16 = 0; rw [lm]; omega
    · rw [N]
  refine ⟨⟨⟨by omega, by omega⟩, fm⟩, fun _ => ⟨fun k => ?_, fun _ => ⟨fm, fun _ => ⟨⟨rfl, rfl, rfl, ?_⟩, fun _ => ⟨⟨hyp, rfl, rfl, rfl, rfl, ?_⟩, fun _ => rfl⟩⟩⟩⟩⟩
  · have k := of_decide_eq_true k; omega
  · have X := mc_eqX NN (ec_eq N.symm)
    exact X
  · have X := mc_eqX (rfl : nrP (newY q data code p) = nrP (newY q data code p)) (ec_eq (rfl : newY q data code p = newY q data code p))
    exact X
theorem cBarePlays : Con ea has (G7 ++ (G9 ++ rest)) 3 kBarePlays := by
  refine plain_mkB Tryz.func3 148 (con := [(4, kfirst8), (5, kmemGF), (6, kbNewQ), (7, kSeeIs), (8, keNewB), (9, kbPress), (10, krPress), (11, kbClone), (12, kbStep), (13, keStep), (14, ksame8), (15, kbNow), (16, kwhole8)]) ⟨cfirst8, cmemGF, cbNewQ, cSeeIs, ceNewB, cbPress, crPress, cbClone, cbStep, ceStep, csame8, cbNow, cwhole8, trivial⟩ (fun hA hr hv => ?_) (by kernel_rfl) (by kernel_rfl) Tryz.ntmps3
  unfold kBarePlays at hr; split at hr
  · rename_i q data code x pc ie eie epc tv ca ad keys st
    have := ret_ok hr; subst this
    exact ⟨_, [(3000006, cutL { fr := [(0, .int .i64 (.lit (.ofNat 17)))], hp := [], next := 0, sz := 148 }), (1000014, cutL { fr := [(4, .ro .u32 keys), (5, .int .i64 (.full st.val)), (13, .bool (.lit true)), (16, .ptr 0 0), (18, .ptr 7 0)], hp := mHpA 0 (nrP (newY q.val data code (⟨x, pc.val, ie.val, eie.val, epc.val, tv.val, ca.val, ad.val⟩ : Cpu))) ++ eHpA 7 (newY q.val data code (⟨x, pc.val, ie.val, eie.val, epc.val, tv.val, ca.val, ad.val⟩ : Cpu)), next := 14, sz := 148 }), (16, Lplays' (newY q.val data code (⟨x, pc.val, ie.val, eie.val, epc.val, tv.val, ca.val, ad.val⟩ : Cpu)) keys st.val)], rfl, rfl, .of (argBarePlays q data code x pc ie eie epc tv ca ad keys st) (by simp), rfl, (fun W R ρ0 own0 hown => hl1 (by kernel_rfl) (by kernel_rfl) (lplays' (newY q.val data code (⟨x, pc.val, ie.val, eie.val, epc.val, tv.val, ca.val, ad.val⟩ : Cpu)) keys st.val hown)), gBarePlays q.val data code ⟨x, pc.val, ie.val, eie.val, epc.val, tv.val, ca.val, ad.val⟩ keys st.val ⟩
  · cases hr
end
end Go.Proofs.YtpjccdncokamlaaGreatDoor

