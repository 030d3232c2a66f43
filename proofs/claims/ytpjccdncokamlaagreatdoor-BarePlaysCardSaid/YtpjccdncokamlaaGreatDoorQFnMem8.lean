/- Contracts. -/
import Derived.Test.YtpjccdncokamlaaGreatDoorQFnStep
set_option maxHeartbeats 4000000
set_option linter.unusedVariables false
set_option linter.unusedSimpArgs false
namespace Go.Proofs.YtpjccdncokamlaaGreatDoor
open Go.RowKit Go.Sy Go.Fac
section
variable {ea : Ear} {has : Int → Prop} {gl : List (Nat × SVal)}
theorem hl5 {c b1 b2 b3 b4 b5 : Code} {ls : List (Nat × LSum)} {L0 : LSum} {Z : Code → LSum → Prop} (h : loopsOf c = [b1, b2, b3, b4, b5]) (f1 : (find (headId b1) ls).isNone = true) (f2 : (find (headId b2) ls).isNone = true) (f3 : (find (headId b3) ls).isNone = true) (f4 : (find (headId b4) ls).isNone = true) (f5 : find (headId b5) ls = some L0) (H : Z b5 L0) :
    ∀ b ∈ loopsOf c, ∀ L, find (headId b) ls = some L → Z b L := by
  rw [h]
  intro b hb L hL
  simp only [List.mem_cons, List.mem_nil_iff, or_false] at hb
  rcases hb with rfl | rfl | rfl | rfl | rfl
  · rw [hL] at f1; cases f1
  · rw [hL] at f2; cases f2
  · rw [hL] at f3; cases f3
  · rw [hL] at f4; cases f4
  · rw [f5] at hL; cases hL; exact H
def kmemPut : List SVal → Nat → Acc ORes := fun a n => match a with
  | [.int .i64 a, .int .u32 w, .ptr x 0, .ptr y 0] => .look x fun cc => match cc with | some (.cells [.ptr c 0]) => (.look y fun cc => match cc with | some (.cells [.ptr d 0]) => (.look c fun cc => match cc with | some (.cells [.own p]) => (.look d fun cc => match cc with | some (.cells [.own q]) => (.look p fun cc => match cc with | some (.recs .u32 l) => (.look q fun cc => match cc with | some (.recs .u32 l') => (match nodupB [x, y, c, d, p, q] with | true => .ret (genR [x, y, c, d, p, q] (gone []) n (.tuple []) ([(0, .cells [.ptr 2 0]), (1, .cells [.ptr 3 0]), (2, .cells [.own 4]), (3, .cells [.own 5]), (4, .recs .u32 (wr l a.val w.val)), (5, .recs .u32 (wr l' a.val w.val))]) 0) | false => .fail "memPut") | _ => .fail "memPut") | _ => .fail "memPut") | _ => .fail "memPut") | _ => .fail "memPut") | _ => .fail "memPut") | _ => .fail "memPut"
  | _ => .fail "memPut"
theorem fitmemPut (gl : List (Nat × SVal)) (a w : SI) (l l' : List Int) : (fits (envK gl [(21, kmWrite), (22, krWrite)] 6) (S1 [.int .i64 a, .int .u32 w, .ptr 0 0, .ptr 1 0] (numC 0 [.cells [.ptr 2 0], .cells [.ptr 3 0], .cells [.own 4], .cells [.own 5], .recs .u32 l, .recs .u32 l']) 6 14) (S1 [.int .i64 (.full a.val), .int .u32 (.full w.val), .ptr 0 0, .ptr 1 0] [(0, some (.cells [.ptr 2 0])), (1, some (.cells [.ptr 3 0])), (2, some (.cells [.own 4])), (3, some (.cells [.own 5])), (4, some (.recs .u32 l)), (5, some (.recs .u32 l'))] 6 14)) = (
  SI.val a = SI.val a ∧ SI.val w = SI.val w ∧ l = l ∧ l' = l') := by kernel_rfl
abbrev TmemPut (gl : List (Nat × SVal)) (a w : Int) (l l' : List Int) : Prop := Tr.sat (newQ (envK gl [(21, kmWrite), (22, krWrite)] 6) (.tuple []) ([(0, .cells [.ptr 2 0]), (1, .cells [.ptr 3 0]), (2, .cells [.own 4]), (3, .cells [.own 5]), (4, .recs .u32 (wr l a w)), (5, .recs .u32 (wr l' a w))]) (6 + 0)) (run (envK gl [(21, kmWrite), (22, krWrite)] 6) [] (bodyOf Tryz.f20) (S1 [.int .i64 (.full a), .int .u32 (.full w), .ptr 0 0, .ptr 1 0] [(0, some (.cells [.ptr 2 0])), (1, some (.cells [.ptr 3 0])), (2, some (.cells [.own 4])), (3, some (.cells [.own 5])), (4, some (.recs .u32 l)), (5, some (.recs .u32 l'))] 6 14) (ends (envK gl [(21, kmWrite), (22, krWrite)] 6) Tryz.f20.results.toList))
theorem runmemPut (gl : List (Nat × SVal)) (a w : Int) (l l' : List Int) : (TmemPut gl a w l l') = (
  wr l a w = wr l a w ∧ wr l' a w = wr l' a w) := by kernel_rfl
theorem gmemPut (a w : Int) (l l' : List Int)  : Box (TmemPut gl a w l l') := by
  refine .of (runmemPut gl a w l l') ?_
  exact ⟨rfl, rfl⟩
theorem cmemPut : Con ea has gl 20 kmemPut := by
  refine gen_mk Tryz.func20 14 6 (con := [(21, kmWrite), (22, krWrite)]) ⟨cmWrite, crWrite, trivial⟩ (fun hA hr hv => ?_) (by kernel_rfl) (by kernel_rfl) Tryz.ntmps20
  unfold kmemPut at hr; split at hr
  · rename_i a w x y
    simp only [Acc.run] at hr
    split at hr
    · rename_i c hx
      simp only [Acc.run] at hr
      split at hr
      · rename_i d hy
        simp only [Acc.run] at hr
        split at hr
        · rename_i p hc
          simp only [Acc.run] at hr
          split at hr
          · rename_i q hd
            simp only [Acc.run] at hr
            split at hr
            · rename_i l hp
              simp only [Acc.run] at hr
              split at hr
              · rename_i l' hq
                split at hr
                · rename_i hnd
                  have := ret_ok hr; subst this
                  refine ⟨[x, y, c, d, p, q], [], [.cells [.ptr 2 0], .cells [.ptr 3 0], .cells [.own 4], .cells [.own 5], .recs .u32 l, .recs .u32 l'], [.int .i64 a, .int .u32 w, .ptr 0 0, .ptr 1 0], (S1 [.int .i64 (.full a.val), .int .u32 (.full w.val), .ptr 0 0, .ptr 1 0] [(0, some (.cells [.ptr 2 0])), (1, some (.cells [.ptr 3 0])), (2, some (.cells [.own 4])), (3, some (.cells [.own 5])), (4, some (.recs .u32 l)), (5, some (.recs .u32 l'))] 6 14), [], .tuple [], [(0, .cells [.ptr 2 0]), (1, .cells [.ptr 3 0]), (2, .cells [.own 4]), (3, .cells [.own 5]), (4, .recs .u32 (wr l a.val w.val)), (5, .recs .u32 (wr l' a.val w.val))], 0, rfl, rfl, ⟨rfl, rfl, rfl⟩, hnd, ⟨hx, hy, hc, hd, hp, hq, trivial⟩, rfl, rfl, .of (fitmemPut gl a w l l') (by simp [nilR]), rfl, (fun W R ρ0 own0 hown => noSums (by kernel_rfl)), gmemPut a.val w.val l l'⟩
                · cases hr
              · cases hr
            · cases hr
          · cases hr
        · cases hr
      · cases hr
    · cases hr
  · cases hr
def Hmemory8 (q : Int) (l code : List Int) (i : Nat) : SState := { fr := [(0, .int .i64 (.sym q 17 256)), (2, .ro .u32 code), (9, .ptr 2 0), (11, .ptr 5 0), (12, .func 20 [.ptr 2 0, .ptr 5 0]), (23, .int .i64 (.sym i 0 256))], hp := [(0, some (.cells [.own 1])), (1, some (.recs .u32 (wrs (fun k => code.getD k 0) (16 * q) l i))), (2, some (.cells [.ptr 0 0])), (3, some (.cells [.own 4])), (4, some (.recs .u32 (wrs (fun k => code.getD k 0) (16 * q) l i))), (5, some (.cells [.ptr 3 0]))], next := 6, sz := 134 }
def Xmemory8 (q : Int) (l code : List Int) : SState := { fr := [(9, .ptr 2 0), (11, .ptr 5 0)], hp := [(0, some (.cells [.own 1])), (1, some (.recs .u32 (wrs (fun k => code.getD k 0) (16 * q) l (min code.length 256)))), (2, some (.cells [.ptr 0 0])), (3, some (.cells [.own 4])), (4, some (.recs .u32 (wrs (fun k => code.getD k 0) (16 * q) l (min code.length 256)))), (5, some (.cells [.ptr 3 0]))], next := 6, sz := 134 }
def Lmemory8 (q : Int) (l code : List Int) : LSum := ⟨Hmemory8 q l code 0, fun k => k (.exit 8) (Xmemory8 q l code), code.length ≤ 1000000⟩
theorem bmemory8 (gl : List (Nat × SVal)) (q : Int) (l code : List Int) (i : Nat) : (Tr.sat (rnd1 (env gl [(18, kmNew), (19, krNew), (23, krBits), (20, kmemPut)]) (fun _ => True) (min code.length 256) (Hmemory8 q l code) 8 (Xmemory8 q l code) i) (run (env gl [(18, kmNew), (19, krNew), (23, krBits), (20, kmemPut)]) [] (loopN (bodyOf Tryz.f5) 4) (Hmemory8 q l code i) .leaf)) = (
  IT (decide ((i : Int) < ((List.length code) : Int)) && decide ((i : Int) < 256)) (RQ (0 ≤ (i : Int) ∧ (i : Int) < ((List.length code) : Int)) (i < min (List.length code) (256 : Nat) ∧ True ∧ q = q ∧ code = code ∧ (i : Int) + 1 = ((i + 1) : Int) ∧ (0 ≤ ((i + 1) : Int) ∧ ((i + 1) : Int) ≤ 256) ∧ wr (wrs (fun (k : Nat) => List.getD code k (0 : Int)) ((16 : Int) * q) l i) ((16 : Int) * q + (i : Int)) (List.getD code (Int.toNat (i : Int)) (RT.dflt RT.u32)) = wrs (fun (k : Nat) => List.getD code k (0 : Int)) ((16 : Int) * q) l (i + 1) ∧ wr (wrs (fun (k : Nat) => List.getD code k (0 : Int)) ((16 : Int) * q) l i) ((16 : Int) * q + (i : Int)) (List.getD code (Int.toNat (i : Int)) (RT.dflt RT.u32)) = wrs (fun (k : Nat) => List.getD code k (0 : Int)) ((16 : Int) * q) l (i + 1))) (Nat.beq (8 : Nat) (8 : Nat) = true ∧ wrs (fun (k : Nat) => List.getD code k (0 : Int)) ((16 : Int) * q) l i = wrs (fun (k : Nat) => List.getD code k (0 : Int)) ((16 : Int) * q) l (min (List.length code) (256 : Nat)) ∧ wrs (fun (k : Nat) => List.getD code k (0 : Int)) ((16 : Int) * q) l i = wrs (fun (k : Nat) => List.getD code k (0 : Int)) ((16 : Int) * q) l (min (List.length code) (256 : Nat)))) := by kernel_rfl
theorem lmemory8 (q : Int) (l code : List Int) {W : World} {R own0 : Nat → Prop} {ρ0 : Nat → Option Value} (hown : HownOk (env gl [(18, kmNew), (19, krNew), (23, krBits), (20, kmemPut)]) own0 ρ0) : LOk Tryz.prog (env gl [(18, kmNew), (19, krNew), (23, krBits), (20, kmemPut)]) (ctx ea has) gl W R own0 ρ0 (loopN (bodyOf Tryz.f5) 4) (Lmemory8 q l code) := by
  refine loop1_ok (J := fun _ => True) (N := min code.length 256) (H := Hmemory8 q l code) (X := Xmemory8 q l code) (env_ok (con := [(18, kmNew), (19, krNew), (23, krBits), (20, kmemPut)]) ⟨cmNew, crNew, crBits, cmemPut, trivial⟩) hown (ls := fun i => []) (fun i => noSums (by kernel_rfl)) (fun hm i hi hj => ?_) 0 (fun hm => by first | exact Nat.zero_le _ | omega) (fun hm => trivial)
  rw [bmemory8 gl q l code i]
  have d0 : RT.dflt RT.u32 = (0 : Int) := rfl
  refine ⟨fun h => ?_, fun h => ⟨rfl, ?_⟩⟩
  · rw [Bool.and_eq_true] at h
    have h1 := of_decide_eq_true h.1
    have h2 := of_decide_eq_true h.2
    exact ⟨⟨by omega, by omega⟩, fun _ => ⟨by omega, trivial, rfl, rfl, by omega, ⟨by omega, by omega⟩, rfl, rfl⟩⟩
  · rw [Bool.and_eq_false_iff] at h
    have : i = min code.length 256 := by
      rcases h with h | h
      · have := of_decide_eq_false h; omega
      · have := of_decide_eq_false h; omega
    rw [← this]
    exact ⟨rfl, rfl⟩
def tab8 (q : Int) : List Int := wrs (fun p => bitsW (q + (p : Int)) true false true) 144 (wrs (fun p => bitsW (17 + (p : Int)) true true true) 16
    (wrs (fun k => bitsW ((k : Int) + 1) true true true) 0 (List.replicate ((q + 16) * 16).toNat 0) 16) (min 3 (q - 17).toNat)) 16
theorem wrs_0 (f : Nat → Int) (off : Int) (l : List Int) : wrs f off l 0 = l := rfl
theorem mem8_tab (q : Int) (code : List Int) : mem8 q [] code = wrs (fun i => code.getD i 0) (16 * q) (tab8 q) (min code.length 256) := rfl
def kmemory8_20 : List SVal → Nat → Acc ORes := fun a n => match a with | [.int .i64 (.lit (.ofNat 20)), .nilslice, .ro .u32 code] => .ret (newR n (.tuple [.ptr 0 0, .ptr 2 0]) ([(0, .cells [.own 1]), (1, .recs .u32 (mem8 20 [] code)), (2, .cells [.own 3]), (3, .recs .u32 (mem8 20 [] code))]) 4 (some (few code))) | _ => .fail "memory8_20"
theorem argmemory8_20 (code : List Int) : (all (subL tAtN none' [] deep [.int .i64 (.lit (.ofNat 20)), .nilslice, .ro .u32 code] [.int .i64 (.lit (.ofNat 20)), .nilslice, .ro .u32 code])) = (
  (20 : Int) = Int.ofNat (20 : Nat) ∧ code = code) := by kernel_rfl
abbrev Tmemory8_20 (gl : List (Nat × SVal)) (code : List Int) : Prop := Tr.sat (newQ (env gl [(18, kmNew), (19, krNew), (23, krBits), (20, kmemPut)]) (.tuple [.ptr 0 0, .ptr 2 0]) ([(0, .cells [.own 1]), (1, .recs .u32 (mem8 20 [] code)), (2, .cells [.own 3]), (3, .recs .u32 (mem8 20 [] code))]) 4) (run (env gl [(18, kmNew), (19, krNew), (23, krBits), (20, kmemPut)]) [(27, Lmemory8 20 (tab8 20) code)] (bodyOf Tryz.f5) (start [.int .i64 (.lit (.ofNat 20)), .nilslice, .ro .u32 code] 134) (ends (env gl [(18, kmNew), (19, krNew), (23, krBits), (20, kmemPut)]) Tryz.f5.results.toList))
theorem runmemory8_20 (gl : List (Nat × SVal)) (code : List Int) : (Tmemory8_20 gl code) = (
  RQ ((1 : Int) ≤ (36 : Int) ∧ (36 : Int) ≤ (1024 : Int)) (RQ ((1 : Int) ≤ (36 : Int) ∧ (36 : Int) ≤ (1024 : Int)) (RQ (List.length code ≤ 1000000 ∧ (20 : Int) = (20 : Int) ∧ code = code ∧ (0 : Int) = ((0 : Nat) : Int) ∧ wr (wr (wr (wr (wr (wr (wr (wr (wr (wr (wr (wr (wr (wr (wr (wr (wr (wr (wr (wr (wr (wr (wr (wr (wr (wr (wr (wr (wr (wr (wr (wr (wr (wr (wr (List.replicate (Int.toNat ((36 : Int) * (16 : Int))) (0 : RT.ty RT.u32)) (0 : Int) (bitsW (1 : Int) true true true)) (1 : Int) (bitsW (2 : Int) true true true)) (2 : Int) (bitsW (3 : Int) true true true)) (3 : Int) (bitsW (4 : Int) true true true)) (4 : Int) (bitsW (5 : Int) true true true)) (5 : Int) (bitsW (6 : Int) true true true)) (6 : Int) (bitsW (7 : Int) true true true)) (7 : Int) (bitsW (8 : Int) true true true)) (8 : Int) (bitsW (9 : Int) true true true)) (9 : Int) (bitsW (10 : Int) true true true)) (10 : Int) (bitsW (11 : Int) true true true)) (11 : Int) (bitsW (12 : Int) true true true)) (12 : Int) (bitsW (13 : Int) true true true)) (13 : Int) (bitsW (14 : Int) true true true)) (14 : Int) (bitsW (15 : Int) true true true)) (15 : Int) (bitsW (16 : Int) true true true)) (16 : Int) (bitsW (17 : Int) true true true)) (17 : Int) (bitsW (18 : Int) true true true)) (18 : Int) (bitsW (19 : Int) true true true)) (144 : Int) (bitsW (20 : Int) true false true)) (145 : Int) (bitsW (21 : Int) true false true)) (146 : Int) (bitsW (22 : Int) true false true)) (147 : Int) (bitsW (23 : Int) true false true)) (148 : Int) (bitsW (24 : Int) true false true)) (149 : Int) (bitsW (25 : Int) true false true)) (150 : Int) (bitsW (26 : Int) true false true)) (151 : Int) (bitsW (27 : Int) true false true)) (152 : Int) (bitsW (28 : Int) true false true)) (153 : Int) (bitsW (29 : Int) true false true)) (154 : Int) (bitsW (30 : Int) true false true)) (155 : Int) (bitsW (31 : Int) true false true)) (156 : Int) (bitsW (32 : Int) true false true)) (157 : Int) (bitsW (33 : Int) true false true)) (158 : Int) (bitsW (34 : Int) true false true)) (159 : Int) (bitsW (35 : Int) true false true) = wrs (fun (k : Nat) => List.getD code k (0 : Int)) ((16 : Int) * (20 : Int)) (tab8 (20 : Int)) (0 : Nat) ∧ wr (wr (wr (wr (wr (wr (wr (wr (wr (wr (wr (wr (wr (wr (wr (wr (wr (wr (wr (wr (wr (wr (wr (wr (wr (wr (wr (wr (wr (wr (wr (wr (wr (wr (wr (List.replicate (Int.toNat ((36 : Int) * (16 : Int))) (0 : RT.ty RT.u32)) (0 : Int) (bitsW (1 : Int) true true true)) (1 : Int) (bitsW (2 : Int) true true true)) (2 : Int) (bitsW (3 : Int) true true true)) (3 : Int) (bitsW (4 : Int) true true true)) (4 : Int) (bitsW (5 : Int) true true true)) (5 : Int) (bitsW (6 : Int) true true true)) (6 : Int) (bitsW (7 : Int) true true true)) (7 : Int) (bitsW (8 : Int) true true true)) (8 : Int) (bitsW (9 : Int) true true true)) (9 : Int) (bitsW (10 : Int) true true true)) (10 : Int) (bitsW (11 : Int) true true true)) (11 : Int) (bitsW (12 : Int) true true true)) (12 : Int) (bitsW (13 : Int) true true true)) (13 : Int) (bitsW (14 : Int) true true true)) (14 : Int) (bitsW (15 : Int) true true true)) (15 : Int) (bitsW (16 : Int) true true true)) (16 : Int) (bitsW (17 : Int) true true true)) (17 : Int) (bitsW (18 : Int) true true true)) (18 : Int) (bitsW (19 : Int) true true true)) (144 : Int) (bitsW (20 : Int) true false true)) (145 : Int) (bitsW (21 : Int) true false true)) (146 : Int) (bitsW (22 : Int) true false true)) (147 : Int) (bitsW (23 : Int) true false true)) (148 : Int) (bitsW (24 : Int) true false true)) (149 : Int) (bitsW (25 : Int) true false true)) (150 : Int) (bitsW (26 : Int) true false true)) (151 : Int) (bitsW (27 : Int) true false true)) (152 : Int) (bitsW (28 : Int) true false true)) (153 : Int) (bitsW (29 : Int) true false true)) (154 : Int) (bitsW (30 : Int) true false true)) (155 : Int) (bitsW (31 : Int) true false true)) (156 : Int) (bitsW (32 : Int) true false true)) (157 : Int) (bitsW (33 : Int) true false true)) (158 : Int) (bitsW (34 : Int) true false true)) (159 : Int) (bitsW (35 : Int) true false true) = wrs (fun (k : Nat) => List.getD code k (0 : Int)) ((16 : Int) * (20 : Int)) (tab8 (20 : Int)) (0 : Nat)) (wrs (fun (k : Nat) => List.getD code k (0 : Int)) ((16 : Int) * (20 : Int)) (tab8 (20 : Int)) (min (List.length code) (256 : Nat)) = mem8 (20 : Int) (@List.nil Int) code ∧ wrs (fun (k : Nat) => List.getD code k (0 : Int)) ((16 : Int) * (20 : Int)) (tab8 (20 : Int)) (min (List.length code) (256 : Nat)) = mem8 (20 : Int) (@List.nil Int) code)))) := by kernel_rfl
theorem gmemory8_20 (code : List Int)  (hv : few code) : Box (Tmemory8_20 gl code) := by
  refine .of (runmemory8_20 gl code) ?_
  refine ⟨by omega, fun _ => ⟨by omega, fun _ => ⟨⟨hv, rfl, rfl, rfl, ?_, ?_⟩, fun _ => ?_⟩⟩⟩
  · rw [wrs_0]; decide +kernel
  · rw [wrs_0]; decide +kernel
  · exact ⟨(mem8_tab 20 code).symm, (mem8_tab 20 code).symm⟩
theorem cmemory8_20 : Con ea has gl 5 kmemory8_20 := by
  refine new_mkB Tryz.func5 134 (con := [(18, kmNew), (19, krNew), (23, krBits), (20, kmemPut)]) ⟨cmNew, crNew, crBits, cmemPut, trivial⟩ (fun hA hr hv => ?_) (by kernel_rfl) (by kernel_rfl) Tryz.ntmps5
  unfold kmemory8_20 at hr; split at hr
  · rename_i code
    have := ret_ok hr; subst this
    replace hv := hv _ rfl
    exact ⟨_, [(27, Lmemory8 20 (tab8 20) code)], _, _, _, ⟨rfl, rfl, rfl⟩, .of (argmemory8_20 code) (by simp), rfl, rfl, (fun W R ρ0 own0 hown => hl5 (b1 := loopN (bodyOf Tryz.f5) 0) (b2 := loopN (bodyOf Tryz.f5) 1) (b3 := loopN (bodyOf Tryz.f5) 2) (b4 := loopN (bodyOf Tryz.f5) 3) (by kernel_rfl) (by kernel_rfl) (by kernel_rfl) (by kernel_rfl) (by kernel_rfl) (by kernel_rfl) (lmemory8 20 (tab8 20) code hown)), gmemory8_20 code  hv⟩
  · cases hr
abbrev kmemB := frz [.any, .any, .ro .u32] kmemory8_20
theorem cmemB : Con ea has gl 5 kmemB := frz_ok cmemory8_20 _
end
end Go.Proofs.YtpjccdncokamlaaGreatDoor

