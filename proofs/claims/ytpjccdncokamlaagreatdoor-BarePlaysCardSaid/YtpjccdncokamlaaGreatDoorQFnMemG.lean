/- Contracts. -/
import Derived.Test.YtpjccdncokamlaaGreatDoorQFnMem8
set_option maxHeartbeats 4000000
set_option linter.unusedVariables false
set_option linter.unusedSimpArgs false
namespace Go.Proofs.YtpjccdncokamlaaGreatDoor
open Go.RowKit Go.Sy Go.Fac
section
variable {ea : Ear} {has : Int → Prop} {gl : List (Nat × SVal)}
abbrev mG (L : List Int) : List (Nat × Option Cont) := [(0, some (.cells [.own 1])), (1, some (.recs .u32 L)), (2, some (.cells [.ptr 0 0])), (3, some (.cells [.own 4])), (4, some (.recs .u32 L)), (5, some (.cells [.ptr 3 0]))]
def mG0 (q : Int) : List Int := List.replicate ((q + 16) * 16).toNat 0
def mG1 (q : Int) (i : Nat) : List Int := wrs (fun k => bitsW ((k : Int) + 1) true true true) 0 (mG0 q) i
def mG2 (q : Int) (i : Nat) : List Int := wrs (fun p => bitsW (17 + (p : Int)) true true true) 16 (mG1 q 16) i
def mG3 (q : Int) (i : Nat) : List Int := wrs (fun p => bitsW (q + (p : Int)) true false true) 144 (mG2 q (min 3 (q - 17).toNat)) i
def mG4 (q : Int) (data : List Int) (i : Nat) : List Int := wrs (fun k => data.getD k 0) 272 (mG3 q 16) i
def mG5 (q : Int) (data code : List Int) (i : Nat) : List Int := wrs (fun k => code.getD k 0) (16 * q) (mG4 q data (min data.length 48)) i
theorem mG_is (q : Int) (data code : List Int) : mG5 q data code (min code.length 256) = mem8 q data code := rfl
def Hmg0 (q : Int) (data code : List Int) (i : Nat) : SState := { fr := [(0, .int .i64 (.sym q 17 256)), (1, .ro .u32 data), (2, .ro .u32 code), (9, .ptr 2 0), (11, .ptr 5 0), (12, .func 20 [.ptr 2 0, .ptr 5 0]), (13, .int .i64 (.sym i 0 16))], hp := mG (mG1 q i), next := 6, sz := 134 }
def Xmg0 (q : Int) (data code : List Int) : SState := { fr := [(0, .int .i64 (.sym q 17 256)), (1, .ro .u32 data), (2, .ro .u32 code), (9, .ptr 2 0), (11, .ptr 5 0), (12, .func 20 [.ptr 2 0, .ptr 5 0])], hp := mG (mG1 q 16), next := 6, sz := 134 }
def Lmg0 (q : Int) (data code : List Int) : LSum := ⟨Hmg0 q data code 0, fun k => k (.exit 0) (Xmg0 q data code), (17 ≤ q ∧ q ≤ 256) ∧ few data ∧ few code⟩
theorem bmg0 (gl : List (Nat × SVal)) (q : Int) (data code : List Int) (i : Nat) : (Tr.sat (rnd1 (env gl [(18, kmNew), (19, krNew), (23, krBits), (20, kmemPut)]) (fun _ => True) (16) (Hmg0 q data code) 0 (Xmg0 q data code) i) (run (env gl [(18, kmNew), (19, krNew), (23, krBits), (20, kmemPut)]) [] (loopN (bodyOf Tryz.f5) 0) (Hmg0 q data code i) .leaf)) = (
  IT (decide ((i : Int) < 16)) (i < 16 ∧ True ∧ q = q ∧ data = data ∧ code = code ∧ (i : Int) + 1 = ((i + 1) : Int) ∧ (0 ≤ ((i + 1) : Int) ∧ ((i + 1) : Int) ≤ 16) ∧ wr (mG1 q i) (i : Int) (bitsW ((i : Int) + 1) true true true) = mG1 q (i + 1) ∧ wr (mG1 q i) (i : Int) (bitsW ((i : Int) + 1) true true true) = mG1 q (i + 1)) (Nat.beq (0 : Nat) (0 : Nat) = true ∧ q = q ∧ data = data ∧ code = code ∧ mG1 q i = mG1 q (16 : Nat) ∧ mG1 q i = mG1 q (16 : Nat))) := by kernel_rfl
theorem lmg0 (q : Int) (data code : List Int) {W : World} {R own0 : Nat → Prop} {ρ0 : Nat → Option Value} (hown : HownOk (env gl [(18, kmNew), (19, krNew), (23, krBits), (20, kmemPut)]) own0 ρ0) : LOk Tryz.prog (env gl [(18, kmNew), (19, krNew), (23, krBits), (20, kmemPut)]) (ctx ea has) gl W R own0 ρ0 (loopN (bodyOf Tryz.f5) 0) (Lmg0 q data code) := by
  refine loop1_ok (J := fun _ => True) (N := 16) (H := Hmg0 q data code) (X := Xmg0 q data code) (env_ok (con := [(18, kmNew), (19, krNew), (23, krBits), (20, kmemPut)]) ⟨cmNew, crNew, crBits, cmemPut, trivial⟩) hown (ls := fun i => []) (fun i => noSums (by kernel_rfl)) (fun hm i hi hj => ?_) 0 (fun hm => by first | exact Nat.zero_le _ | omega) (fun hm => trivial)
  rw [bmg0 gl q data code i]
  have d0 : RT.dflt RT.u32 = (0 : Int) := rfl
  refine ⟨fun h => ?_, fun h => ?_⟩
  · have h := of_decide_eq_true h
    exact ⟨by omega, trivial, rfl, rfl, rfl, by omega, ⟨by omega, by omega⟩, by rw [show mG1 q (i + 1) = wr (mG1 q i) (0 + (i : Int)) (bitsW ((i : Int) + 1) true true true) from rfl, Int.zero_add], by rw [show mG1 q (i + 1) = wr (mG1 q i) (0 + (i : Int)) (bitsW ((i : Int) + 1) true true true) from rfl, Int.zero_add]⟩
  · have h := of_decide_eq_false h
    have : i = 16 := by omega
    subst this
    exact ⟨rfl, rfl, rfl, rfl, rfl, rfl⟩
def Hmg1 (q : Int) (data code : List Int) (i : Nat) : SState := { fr := [(0, .int .i64 (.sym q 17 256)), (1, .ro .u32 data), (2, .ro .u32 code), (9, .ptr 2 0), (11, .ptr 5 0), (12, .func 20 [.ptr 2 0, .ptr 5 0]), (16, .int .i64 (.sym i 0 3))], hp := mG (mG2 q i), next := 6, sz := 134 }
def Xmg1 (q : Int) (data code : List Int) : SState := { fr := [(0, .int .i64 (.sym q 17 256)), (1, .ro .u32 data), (2, .ro .u32 code), (9, .ptr 2 0), (11, .ptr 5 0), (12, .func 20 [.ptr 2 0, .ptr 5 0])], hp := mG (mG2 q (min 3 (q - 17).toNat)), next := 6, sz := 134 }
def Lmg1 (q : Int) (data code : List Int) : LSum := ⟨Hmg1 q data code 0, fun k => k (.exit 2) (Xmg1 q data code), (17 ≤ q ∧ q ≤ 256) ∧ few data ∧ few code⟩
theorem bmg1 (gl : List (Nat × SVal)) (q : Int) (data code : List Int) (i : Nat) : (Tr.sat (rnd1 (env gl [(18, kmNew), (19, krNew), (23, krBits), (20, kmemPut)]) (fun _ => True) (min 3 (q - 17).toNat) (Hmg1 q data code) 2 (Xmg1 q data code) i) (run (env gl [(18, kmNew), (19, krNew), (23, krBits), (20, kmemPut)]) [] (loopN (bodyOf Tryz.f5) 1) (Hmg1 q data code i) .leaf)) = (
  IT (decide ((i : Int) < 3) && decide ((17 : Int) + (i : Int) < q)) (i < min (3 : Nat) (Int.toNat (q - 17)) ∧ True ∧ q = q ∧ data = data ∧ code = code ∧ (i : Int) + 1 = ((i + 1) : Int) ∧ (0 ≤ ((i + 1) : Int) ∧ ((i + 1) : Int) ≤ 3) ∧ wr (mG2 q i) ((16 : Int) + (i : Int)) (bitsW ((17 : Int) + (i : Int)) true true true) = mG2 q (i + 1) ∧ wr (mG2 q i) ((16 : Int) + (i : Int)) (bitsW ((17 : Int) + (i : Int)) true true true) = mG2 q (i + 1)) (Nat.beq (2 : Nat) (2 : Nat) = true ∧ q = q ∧ data = data ∧ code = code ∧ mG2 q i = mG2 q (min (3 : Nat) (Int.toNat (q - 17))) ∧ mG2 q i = mG2 q (min (3 : Nat) (Int.toNat (q - 17))))) := by kernel_rfl
theorem lmg1 (q : Int) (data code : List Int) {W : World} {R own0 : Nat → Prop} {ρ0 : Nat → Option Value} (hown : HownOk (env gl [(18, kmNew), (19, krNew), (23, krBits), (20, kmemPut)]) own0 ρ0) : LOk Tryz.prog (env gl [(18, kmNew), (19, krNew), (23, krBits), (20, kmemPut)]) (ctx ea has) gl W R own0 ρ0 (loopN (bodyOf Tryz.f5) 1) (Lmg1 q data code) := by
  refine loop1_ok (J := fun _ => True) (N := min 3 (q - 17).toNat) (H := Hmg1 q data code) (X := Xmg1 q data code) (env_ok (con := [(18, kmNew), (19, krNew), (23, krBits), (20, kmemPut)]) ⟨cmNew, crNew, crBits, cmemPut, trivial⟩) hown (ls := fun i => []) (fun i => noSums (by kernel_rfl)) (fun hm i hi hj => ?_) 0 (fun hm => by first | exact Nat.zero_le _ | omega) (fun hm => trivial)
  rw [bmg1 gl q data code i]
  have d0 : RT.dflt RT.u32 = (0 : Int) := rfl
  refine ⟨fun h => ?_, fun h => ?_⟩
  · rw [Bool.and_eq_true] at h
    have h1 := of_decide_eq_true h.1
    have h2 := of_decide_eq_true h.2
    exact ⟨by omega, trivial, rfl, rfl, rfl, by omega, ⟨by omega, by omega⟩, rfl, rfl⟩
  · rw [Bool.and_eq_false_iff] at h
    have : i = min 3 (q - 17).toNat := by
      rcases h with h | h
      · have := of_decide_eq_false h; omega
      · have := of_decide_eq_false h; omega
    rw [← this]
    exact ⟨rfl, rfl, rfl, rfl, rfl, rfl⟩
def Hmg2 (q : Int) (data code : List Int) (i : Nat) : SState := { fr := [(0, .int .i64 (.sym q 17 256)), (1, .ro .u32 data), (2, .ro .u32 code), (9, .ptr 2 0), (11, .ptr 5 0), (12, .func 20 [.ptr 2 0, .ptr 5 0]), (19, .int .i64 (.sym i 0 16))], hp := mG (mG3 q i), next := 6, sz := 134 }
def Xmg2 (q : Int) (data code : List Int) : SState := { fr := [(0, .int .i64 (.sym q 17 256)), (1, .ro .u32 data), (2, .ro .u32 code), (9, .ptr 2 0), (11, .ptr 5 0), (12, .func 20 [.ptr 2 0, .ptr 5 0])], hp := mG (mG3 q 16), next := 6, sz := 134 }
def Lmg2 (q : Int) (data code : List Int) : LSum := ⟨Hmg2 q data code 0, fun k => k (.exit 4) (Xmg2 q data code), (17 ≤ q ∧ q ≤ 256) ∧ few data ∧ few code⟩
theorem bmg2 (gl : List (Nat × SVal)) (q : Int) (data code : List Int) (i : Nat) : (Tr.sat (rnd1 (env gl [(18, kmNew), (19, krNew), (23, krBits), (20, kmemPut)]) (fun _ => True) (16) (Hmg2 q data code) 4 (Xmg2 q data code) i) (run (env gl [(18, kmNew), (19, krNew), (23, krBits), (20, kmemPut)]) [] (loopN (bodyOf Tryz.f5) 2) (Hmg2 q data code i) .leaf)) = (
  IT (decide ((i : Int) < 16)) (i < 16 ∧ True ∧ q = q ∧ data = data ∧ code = code ∧ (i : Int) + 1 = ((i + 1) : Int) ∧ (0 ≤ ((i + 1) : Int) ∧ ((i + 1) : Int) ≤ 16) ∧ wr (mG3 q i) ((144 : Int) + (i : Int)) (bitsW (q + (i : Int)) true false true) = mG3 q (i + 1) ∧ wr (mG3 q i) ((144 : Int) + (i : Int)) (bitsW (q + (i : Int)) true false true) = mG3 q (i + 1)) (Nat.beq (4 : Nat) (4 : Nat) = true ∧ q = q ∧ data = data ∧ code = code ∧ mG3 q i = mG3 q (16 : Nat) ∧ mG3 q i = mG3 q (16 : Nat))) := by kernel_rfl
theorem lmg2 (q : Int) (data code : List Int) {W : World} {R own0 : Nat → Prop} {ρ0 : Nat → Option Value} (hown : HownOk (env gl [(18, kmNew), (19, krNew), (23, krBits), (20, kmemPut)]) own0 ρ0) : LOk Tryz.prog (env gl [(18, kmNew), (19, krNew), (23, krBits), (20, kmemPut)]) (ctx ea has) gl W R own0 ρ0 (loopN (bodyOf Tryz.f5) 2) (Lmg2 q data code) := by
  refine loop1_ok (J := fun _ => True) (N := 16) (H := Hmg2 q data code) (X := Xmg2 q data code) (env_ok (con := [(18, kmNew), (19, krNew), (23, krBits), (20, kmemPut)]) ⟨cmNew, crNew, crBits, cmemPut, trivial⟩) hown (ls := fun i => []) (fun i => noSums (by kernel_rfl)) (fun hm i hi hj => ?_) 0 (fun hm => by first | exact Nat.zero_le _ | omega) (fun hm => trivial)
  rw [bmg2 gl q data code i]
  have d0 : RT.dflt RT.u32 = (0 : Int) := rfl
  refine ⟨fun h => ?_, fun h => ?_⟩
  · have h := of_decide_eq_true h
    exact ⟨by omega, trivial, rfl, rfl, rfl, by omega, ⟨by omega, by omega⟩, rfl, rfl⟩
  · have h := of_decide_eq_false h
    have : i = 16 := by omega
    subst this
    exact ⟨rfl, rfl, rfl, rfl, rfl, rfl⟩
def Hmg3 (q : Int) (data code : List Int) (i : Nat) : SState := { fr := [(0, .int .i64 (.sym q 17 256)), (1, .ro .u32 data), (2, .ro .u32 code), (9, .ptr 2 0), (11, .ptr 5 0), (12, .func 20 [.ptr 2 0, .ptr 5 0]), (22, .int .i64 (.sym i 0 48))], hp := mG (mG4 q data i), next := 6, sz := 134 }
def Xmg3 (q : Int) (data code : List Int) : SState := { fr := [(0, .int .i64 (.sym q 17 256)), (1, .ro .u32 data), (2, .ro .u32 code), (9, .ptr 2 0), (11, .ptr 5 0), (12, .func 20 [.ptr 2 0, .ptr 5 0])], hp := mG (mG4 q data (min data.length 48)), next := 6, sz := 134 }
def Lmg3 (q : Int) (data code : List Int) : LSum := ⟨Hmg3 q data code 0, fun k => k (.exit 6) (Xmg3 q data code), (17 ≤ q ∧ q ≤ 256) ∧ few data ∧ few code⟩
theorem bmg3 (gl : List (Nat × SVal)) (q : Int) (data code : List Int) (i : Nat) : (Tr.sat (rnd1 (env gl [(18, kmNew), (19, krNew), (23, krBits), (20, kmemPut)]) (fun _ => True) (min data.length 48) (Hmg3 q data code) 6 (Xmg3 q data code) i) (run (env gl [(18, kmNew), (19, krNew), (23, krBits), (20, kmemPut)]) [] (loopN (bodyOf Tryz.f5) 3) (Hmg3 q data code i) .leaf)) = (
  IT (decide ((i : Int) < ((List.length data) : Int)) && decide ((i : Int) < 48)) (RQ (0 ≤ (i : Int) ∧ (i : Int) < ((List.length data) : Int)) (i < min (List.length data) (48 : Nat) ∧ True ∧ q = q ∧ data = data ∧ code = code ∧ (i : Int) + 1 = ((i + 1) : Int) ∧ (0 ≤ ((i + 1) : Int) ∧ ((i + 1) : Int) ≤ 48) ∧ wr (mG4 q data i) ((272 : Int) + (i : Int)) (List.getD data (Int.toNat (i : Int)) (RT.dflt RT.u32)) = mG4 q data (i + 1) ∧ wr (mG4 q data i) ((272 : Int) + (i : Int)) (List.getD data (Int.toNat (i : Int)) (RT.dflt RT.u32)) = mG4 q data (i + 1))) (Nat.beq (6 : Nat) (6 : Nat) = true ∧ q = q ∧ data = data ∧ code = code ∧ mG4 q data i = mG4 q data (min (List.length data) (48 : Nat)) ∧ mG4 q data i = mG4 q data (min (List.length data) (48 : Nat)))) := by kernel_rfl
theorem lmg3 (q : Int) (data code : List Int) {W : World} {R own0 : Nat → Prop} {ρ0 : Nat → Option Value} (hown : HownOk (env gl [(18, kmNew), (19, krNew), (23, krBits), (20, kmemPut)]) own0 ρ0) : LOk Tryz.prog (env gl [(18, kmNew), (19, krNew), (23, krBits), (20, kmemPut)]) (ctx ea has) gl W R own0 ρ0 (loopN (bodyOf Tryz.f5) 3) (Lmg3 q data code) := by
  refine loop1_ok (J := fun _ => True) (N := min data.length 48) (H := Hmg3 q data code) (X := Xmg3 q data code) (env_ok (con := [(18, kmNew), (19, krNew), (23, krBits), (20, kmemPut)]) ⟨cmNew, crNew, crBits, cmemPut, trivial⟩) hown (ls := fun i => []) (fun i => noSums (by kernel_rfl)) (fun hm i hi hj => ?_) 0 (fun hm => by first | exact Nat.zero_le _ | omega) (fun hm => trivial)
  rw [bmg3 gl q data code i]
  have d0 : RT.dflt RT.u32 = (0 : Int) := rfl
  refine ⟨fun h => ?_, fun h => ?_⟩
  · rw [Bool.and_eq_true] at h
    have h1 := of_decide_eq_true h.1
    have h2 := of_decide_eq_true h.2
    exact ⟨⟨by omega, by omega⟩, fun _ => ⟨by omega, trivial, rfl, rfl, rfl, by omega, ⟨by omega, by omega⟩, rfl, rfl⟩⟩
  · rw [Bool.and_eq_false_iff] at h
    have : i = min data.length 48 := by
      rcases h with h | h
      · have := of_decide_eq_false h; omega
      · have := of_decide_eq_false h; omega
    rw [← this]
    exact ⟨rfl, rfl, rfl, rfl, rfl, rfl⟩
def Hmg4 (q : Int) (data code : List Int) (i : Nat) : SState := { fr := [(0, .int .i64 (.sym q 17 256)), (2, .ro .u32 code), (9, .ptr 2 0), (11, .ptr 5 0), (12, .func 20 [.ptr 2 0, .ptr 5 0]), (23, .int .i64 (.sym i 0 256))], hp := mG (mG5 q data code i), next := 6, sz := 134 }
def Xmg4 (q : Int) (data code : List Int) : SState := { fr := [(9, .ptr 2 0), (11, .ptr 5 0)], hp := mG (mG5 q data code (min code.length 256)), next := 6, sz := 134 }
def Lmg4 (q : Int) (data code : List Int) : LSum := ⟨Hmg4 q data code 0, fun k => k (.exit 8) (Xmg4 q data code), (17 ≤ q ∧ q ≤ 256) ∧ few data ∧ few code⟩
theorem bmg4 (gl : List (Nat × SVal)) (q : Int) (data code : List Int) (i : Nat) : (Tr.sat (rnd1 (env gl [(18, kmNew), (19, krNew), (23, krBits), (20, kmemPut)]) (fun _ => True) (min code.length 256) (Hmg4 q data code) 8 (Xmg4 q data code) i) (run (env gl [(18, kmNew), (19, krNew), (23, krBits), (20, kmemPut)]) [] (loopN (bodyOf Tryz.f5) 4) (Hmg4 q data code i) .leaf)) = (
  IT (decide ((i : Int) < ((List.length code) : Int)) && decide ((i : Int) < 256)) (RQ (0 ≤ (i : Int) ∧ (i : Int) < ((List.length code) : Int)) (i < min (List.length code) (256 : Nat) ∧ True ∧ q = q ∧ code = code ∧ (i : Int) + 1 = ((i + 1) : Int) ∧ (0 ≤ ((i + 1) : Int) ∧ ((i + 1) : Int) ≤ 256) ∧ wr (mG5 q data code i) ((16 : Int) * q + (i : Int)) (List.getD code (Int.toNat (i : Int)) (RT.dflt RT.u32)) = mG5 q data code (i + 1) ∧ wr (mG5 q data code i) ((16 : Int) * q + (i : Int)) (List.getD code (Int.toNat (i : Int)) (RT.dflt RT.u32)) = mG5 q data code (i + 1))) (Nat.beq (8 : Nat) (8 : Nat) = true ∧ mG5 q data code i = mG5 q data code (min (List.length code) (256 : Nat)) ∧ mG5 q data code i = mG5 q data code (min (List.length code) (256 : Nat)))) := by kernel_rfl
theorem lmg4 (q : Int) (data code : List Int) {W : World} {R own0 : Nat → Prop} {ρ0 : Nat → Option Value} (hown : HownOk (env gl [(18, kmNew), (19, krNew), (23, krBits), (20, kmemPut)]) own0 ρ0) : LOk Tryz.prog (env gl [(18, kmNew), (19, krNew), (23, krBits), (20, kmemPut)]) (ctx ea has) gl W R own0 ρ0 (loopN (bodyOf Tryz.f5) 4) (Lmg4 q data code) := by
  refine loop1_ok (J := fun _ => True) (N := min code.length 256) (H := Hmg4 q data code) (X := Xmg4 q data code) (env_ok (con := [(18, kmNew), (19, krNew), (23, krBits), (20, kmemPut)]) ⟨cmNew, crNew, crBits, cmemPut, trivial⟩) hown (ls := fun i => []) (fun i => noSums (by kernel_rfl)) (fun hm i hi hj => ?_) 0 (fun hm => by first | exact Nat.zero_le _ | omega) (fun hm => trivial)
  rw [bmg4 gl q data code i]
  have d0 : RT.dflt RT.u32 = (0 : Int) := rfl
  refine ⟨fun h => ?_, fun h => ?_⟩
  · rw [Bool.and_eq_true] at h
    have h1 := of_decide_eq_true h.1
    have h2 := of_decide_eq_true h.2
    exact ⟨⟨by omega, by omega⟩, fun _ => ⟨by omega, trivial, rfl, rfl, by omega, ⟨by omega, by omega⟩, rfl, rfl⟩⟩
  · rw [Bool.and_eq_false_iff] at h
    have : i = min code.length 256 := by
      rcases h with h | h
      · have := of_decide_eq_false h; omega
      · have := of_decide_eq_false h; omega
    rw [← this]
    exact ⟨rfl, rfl, rfl⟩
def kmemG : List SVal → Nat → Acc ORes := fun a n => match a with | [.int .i64 q, .ro .u32 data, .ro .u32 code] => .ret (newR n (.tuple [.ptr 0 0, .ptr 2 0]) ([(0, .cells [.own 1]), (1, .recs .u32 (mem8 q.val data code)), (2, .cells [.own 3]), (3, .recs .u32 (mem8 q.val data code))]) 4 (some ((17 ≤ q.val ∧ q.val ≤ 256) ∧ few data ∧ few code))) | _ => .fail "memG"
theorem argmemG (q : SI) (data code : List Int) : (all (subL tAtN none' [] deep [.int .i64 q, .ro .u32 data, .ro .u32 code] [.int .i64 (.full q.val), .ro .u32 data, .ro .u32 code])) = (
  SI.val q = SI.val q ∧ data = data ∧ code = code) := by kernel_rfl
abbrev TmemG (gl : List (Nat × SVal)) (q : Int) (data code : List Int) : Prop := Tr.sat (newQ (env gl [(18, kmNew), (19, krNew), (23, krBits), (20, kmemPut)]) (.tuple [.ptr 0 0, .ptr 2 0]) ([(0, .cells [.own 1]), (1, .recs .u32 (mem8 q data code)), (2, .cells [.own 3]), (3, .recs .u32 (mem8 q data code))]) 4) (run (env gl [(18, kmNew), (19, krNew), (23, krBits), (20, kmemPut)]) [(1000000, cutL { fr := [(0, .int .i64 (.sym q 17 256)), (1, .ro .u32 data), (2, .ro .u32 code)], hp := [], next := 0, sz := 134 }), (8, Lmg0 q data code), (13, Lmg1 q data code), (18, Lmg2 q data code), (23, Lmg3 q data code), (27, Lmg4 q data code)] (bodyOf Tryz.f5) (start [.int .i64 (.full q), .ro .u32 data, .ro .u32 code] 134) (ends (env gl [(18, kmNew), (19, krNew), (23, krBits), (20, kmemPut)]) Tryz.f5.results.toList))
theorem runmemG (gl : List (Nat × SVal)) (q : Int) (data code : List Int) : (TmemG gl q data code) = (
  RQ (q = q ∧ ((17 : Int) ≤ q ∧ q ≤ 256) ∧ data = data ∧ code = code) (RQ ((1 : Int) ≤ q + 16 ∧ q + 16 ≤ (1024 : Int)) (RQ ((1 : Int) ≤ q + 16 ∧ q + 16 ≤ (1024 : Int)) (RQ ((((17 : Int) ≤ q ∧ q ≤ 256) ∧ few data ∧ few code) ∧ q = q ∧ data = data ∧ code = code ∧ (0 : Int) = ((0 : Nat) : Int) ∧ List.replicate (Int.toNat ((q + 16) * 16)) (0 : RT.ty RT.u32) = mG1 q (0 : Nat) ∧ List.replicate (Int.toNat ((q + 16) * 16)) (0 : RT.ty RT.u32) = mG1 q (0 : Nat)) (RQ ((((17 : Int) ≤ q ∧ q ≤ 256) ∧ few data ∧ few code) ∧ q = q ∧ data = data ∧ code = code ∧ (0 : Int) = ((0 : Nat) : Int) ∧ mG1 q (16 : Nat) = mG2 q (0 : Nat) ∧ mG1 q (16 : Nat) = mG2 q (0 : Nat)) (RQ ((((17 : Int) ≤ q ∧ q ≤ 256) ∧ few data ∧ few code) ∧ q = q ∧ data = data ∧ code = code ∧ (0 : Int) = ((0 : Nat) : Int) ∧ mG2 q (min (3 : Nat) (Int.toNat (q - 17))) = mG3 q (0 : Nat) ∧ mG2 q (min (3 : Nat) (Int.toNat (q - 17))) = mG3 q (0 : Nat)) (RQ ((((17 : Int) ≤ q ∧ q ≤ 256) ∧ few data ∧ few code) ∧ q = q ∧ data = data ∧ code = code ∧ (0 : Int) = ((0 : Nat) : Int) ∧ mG3 q (16 : Nat) = mG4 q data (0 : Nat) ∧ mG3 q (16 : Nat) = mG4 q data (0 : Nat)) (RQ ((((17 : Int) ≤ q ∧ q ≤ 256) ∧ few data ∧ few code) ∧ q = q ∧ code = code ∧ (0 : Int) = ((0 : Nat) : Int) ∧ mG4 q data (min (List.length data) (48 : Nat)) = mG5 q data code (0 : Nat) ∧ mG4 q data (min (List.length data) (48 : Nat)) = mG5 q data code (0 : Nat)) (mG5 q data code (min (List.length code) (256 : Nat)) = mem8 q data code ∧ mG5 q data code (min (List.length code) (256 : Nat)) = mem8 q data code))))))))) := by kernel_rfl
theorem gmemG (q : Int) (data code : List Int)  (hv : (17 ≤ q ∧ q ≤ 256) ∧ few data ∧ few code) : Box (TmemG gl q data code) := by
  refine .of (runmemG gl q data code) ?_
  have e0 : List.replicate ((q + 16) * 16).toNat 0 = mG1 q 0 := (wrs_0 _ _ _).symm
  have e1 : mG1 q 16 = mG2 q 0 := (wrs_0 _ _ _).symm
  have e2 : mG2 q (min 3 (q - 17).toNat) = mG3 q 0 := (wrs_0 _ _ _).symm
  have e3 : mG3 q 16 = mG4 q data 0 := (wrs_0 _ _ _).symm
  have e4 : mG4 q data (min data.length 48) = mG5 q data code 0 := (wrs_0 _ _ _).symm
  obtain ⟨h1, h2, h3⟩ := id hv
  exact ⟨⟨rfl, h1, rfl, rfl⟩, fun _ => ⟨⟨by omega, by omega⟩, fun _ => ⟨⟨by omega, by omega⟩, fun _ => ⟨⟨hv, rfl, rfl, rfl, rfl, e0, e0⟩, fun _ => ⟨⟨hv, rfl, rfl, rfl, rfl, e1, e1⟩, fun _ => ⟨⟨hv, rfl, rfl, rfl, rfl, e2, e2⟩, fun _ => ⟨⟨hv, rfl, rfl, rfl, rfl, e3, e3⟩, fun _ => ⟨⟨hv, rfl, rfl, rfl, e4, e4⟩, fun _ => ⟨mG_is q data code, mG_is q data code⟩⟩⟩⟩⟩⟩⟩⟩⟩
theorem cmemG : Con ea has gl 5 kmemG := by
  refine new_mkB Tryz.func5 134 (con := [(18, kmNew), (19, krNew), (23, krBits), (20, kmemPut)]) ⟨cmNew, crNew, crBits, cmemPut, trivial⟩ (fun hA hr hv => ?_) (by kernel_rfl) (by kernel_rfl) Tryz.ntmps5
  unfold kmemG at hr; split at hr
  · rename_i q data code
    have := ret_ok hr; subst this
    replace hv := hv _ rfl
    exact ⟨_, [(1000000, cutL { fr := [(0, .int .i64 (.sym q.val 17 256)), (1, .ro .u32 data), (2, .ro .u32 code)], hp := [], next := 0, sz := 134 }), (8, Lmg0 q.val data code), (13, Lmg1 q.val data code), (18, Lmg2 q.val data code), (23, Lmg3 q.val data code), (27, Lmg4 q.val data code)], _, _, _, ⟨rfl, rfl, rfl⟩, .of (argmemG q data code) (by simp), rfl, rfl, (fun W R ρ0 own0 hown => hlN (bs := [loopN (bodyOf Tryz.f5) 0, loopN (bodyOf Tryz.f5) 1, loopN (bodyOf Tryz.f5) 2, loopN (bodyOf Tryz.f5) 3, loopN (bodyOf Tryz.f5) 4]) (by kernel_rfl) (fun b hb => by simp only [List.mem_cons, List.mem_nil_iff, or_false] at hb; rcases hb with rfl | rfl | rfl | rfl | rfl; exact ⟨_, by kernel_rfl, lmg0 q.val data code hown⟩; exact ⟨_, by kernel_rfl, lmg1 q.val data code hown⟩; exact ⟨_, by kernel_rfl, lmg2 q.val data code hown⟩; exact ⟨_, by kernel_rfl, lmg3 q.val data code hown⟩; exact ⟨_, by kernel_rfl, lmg4 q.val data code hown⟩)), gmemG q.val data code  hv⟩
  · cases hr
abbrev kmemGF := frz [.any, .ro .u32, .ro .u32] kmemG
theorem cmemGF : Con ea has gl 5 kmemGF := frz_ok cmemG _
end
end Go.Proofs.YtpjccdncokamlaaGreatDoor

