/- Contracts. -/
import Derived.Test.YtpjccdncokamlaaGreatDoorQFnFst8
set_option linter.unusedVariables false
set_option linter.unusedSimpArgs false
namespace Go.Proofs.YtpjccdncokamlaaGreatDoor
open Go.RowKit Go.Sy Go.Fac
section
variable {ea : Ear} {has : Int → Prop} {gl : List (Nat × SVal)}
abbrev mHpW (b : Mc) (no : SI) (ov : SB) : List (Nat × Option Cont) := [(0, some (.cells [.ptr 1 0, .arr .u32 16 b.c.r, .int .u32 (.full b.c.pc), .bool (.sym b.c.ie), .bool (.sym b.c.eie), .int .u32 (.full b.c.epc), .int .u32 (.full b.c.tv), .int .u32 (.full b.c.cause), .int .u32 (.full b.c.addr), .ptr 2 0, .int .i64 (.full b.quota), .int .i64 no, .bool ov, .own 4])), (1, some (.cells [.own 3])), (2, some (.cells (dCells 5 6 b.d))), (3, some (.recs .u32 b.l)), (4, some (.recs updT b.w)), (5, some (.recs .u32 b.d.keys)), (6, some (.recs seenT b.d.seen))]
theorem mc_newL {b : Mc} {l r : List Int} {pc : Int} {ie eie : Bool} {epc tv cause ad q : Int} (h : ⟨l, ⟨r, pc, ie, eie, epc, tv, cause, ad⟩, Dv.nul, q, 0, false, []⟩ = b) : r = b.c.r ∧ pc = b.c.pc ∧ ie = b.c.ie ∧ eie = b.c.eie ∧ epc = b.c.epc ∧ tv = b.c.tv ∧ cause = b.c.cause ∧ ad = b.c.addr ∧ q = b.quota ∧ (0 : Int) = Int.ofNat 0 ∧ false = false ∧ Dv.nul.sec = b.d.sec ∧ Dv.nul.on = b.d.on ∧ Dv.nul.at_ = b.d.at_ ∧ l = b.l ∧ [] = b.w ∧ Dv.nul.keys = b.d.keys ∧ Dv.nul.seen = b.d.seen := by
  subst h; exact ⟨rfl, rfl, rfl, rfl, rfl, rfl, rfl, rfl, rfl, rfl, rfl, rfl, rfl, rfl, rfl, rfl, rfl, rfl⟩
theorem mc_lit {b : Mc} (h1 : b.now = 0) (h2 : b.over = false) : (⟨b.l, ⟨b.c.r, b.c.pc, b.c.ie, b.c.eie, b.c.epc, b.c.tv, b.c.cause, b.c.addr⟩, ⟨b.d.keys, b.d.sec, b.d.on, b.d.at_, b.d.seen⟩, b.quota, 0, false, b.w⟩ : Mc) = b := by
  cases b
  simp only at h1 h2
  subst h1 h2
  rfl
theorem m20_now : m20.now = 0 := by rw [m20_def]
theorem few_one : few [(536870912 : Int)] := by unfold few; decide
def kfirst8 : List SVal → Nat → Acc ORes := fun a n => match a with | [] => .ret ({ v := .bool (.lit true) }) | _ => .fail "first8"
theorem argfirst8  : (all (subL tAtN none' [] deep [] [])) = (
  True) := by kernel_rfl
theorem runfirst8 (gl : List (Nat × SVal)) : (Tr.sat (plainQ (.bool (.lit true))) (run (env gl [(5, kmemB), (6, kbNewLB), (12, kbStepJ), (15, kbNowJ), (17, kbOverJ)]) [(1000004, cutL { fr := [(3, .ptr 0 0), (4, .nilIface)], hp := mHpW m20 (.lit (.ofNat 0)) (.lit false), next := 7, sz := 47 })] (bodyOf Tryz.f4) (start [] 47) (ends (env gl [(5, kmemB), (6, kbNewLB), (12, kbStepJ), (15, kbNowJ), (17, kbOverJ)]) Tryz.f4.results.toList))) = (
  RQ (few [(536870912 : Int)]) (RQ (((17 : Int) ≤ (20 : Int) ∧ (20 : Int) ≤ (256 : Int)) ∧ few (mem8 (20 : Int) (@List.nil Int) [(536870912 : Int)])) (RQ (List.replicate (16 : Nat) (0 : RT.ty RT.u32) = m20.c.r ∧ (2048 : Int) = m20.c.pc ∧ false = m20.c.ie ∧ false = m20.c.eie ∧ (0 : Int) = m20.c.epc ∧ (0 : Int) = m20.c.tv ∧ (0 : Int) = m20.c.cause ∧ (0 : Int) = m20.c.addr ∧ (20 : Int) = m20.quota ∧ (0 : Int) = Int.ofNat (0 : Nat) ∧ false = false ∧ Dv.nul.sec = m20.d.sec ∧ Dv.nul.on = m20.d.on ∧ Dv.nul.at_ = m20.d.at_ ∧ mem8 (20 : Int) (@List.nil Int) [(536870912 : Int)] = m20.l ∧ @List.nil (Int × Int) = m20.w ∧ Dv.nul.keys = m20.d.keys ∧ Dv.nul.seen = m20.d.seen) (RQ (haltOk (Mc.mk m20.l m20.c m20.d m20.quota (0 : Int) false m20.w)) (RQ (isOver (Mc.mk h20.l h20.c h20.d h20.quota (1 : Int) true h20.w)) (true = true)))))) := by kernel_rfl
set_option maxHeartbeats 4000000 in
theorem cfirst8 : Con ea has gl 4 kfirst8 := by
  refine plain_mkB Tryz.func4 47 (con := [(5, kmemB), (6, kbNewLB), (12, kbStepJ), (15, kbNowJ), (17, kbOverJ)]) ⟨cmemB, cbNewLB, cbStepJ, cbNowJ, cbOverJ, trivial⟩ (fun hA hr hv => ?_) (by kernel_rfl) (by kernel_rfl) Tryz.ntmps4
  unfold kfirst8 at hr; split at hr
  · skip
    have := ret_ok hr; subst this
    refine ⟨_, [(1000004, cutL { fr := [(3, .ptr 0 0), (4, .nilIface)], hp := mHpW m20 (.lit (.ofNat 0)) (.lit false), next := 7, sz := 47 })], rfl, rfl, .of (argfirst8 ) (by simp), rfl, (fun W R ρ0 own0 hown => noSums (by kernel_rfl)), .of (runfirst8 gl ) ?_⟩
    clear hr
    exact ⟨few_one, fun _ => ⟨⟨by omega, few_mem8⟩, fun _ => ⟨mc_newL m20_def.symm, fun _ => ⟨mc_lit m20_now m20_ok.2, fun _ => ⟨rfl, fun _ => rfl⟩⟩⟩⟩⟩
  · cases hr
end
end Go.Proofs.YtpjccdncokamlaaGreatDoor

