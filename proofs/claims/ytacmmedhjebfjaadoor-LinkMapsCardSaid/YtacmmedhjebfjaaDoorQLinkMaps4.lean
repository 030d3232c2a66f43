/- Contracts that the proofs use. -/
import Derived.Test.YtacmmedhjebfjaaDoorQLinkMaps3
set_option linter.unusedVariables false
set_option linter.unusedSimpArgs false
namespace Go.Proofs.YtacmmedhjebfjaaDoor
open Go.RowKit Go.Sy Go.Fac
section
variable {ea : Ear} {has : Int → Prop} {rest : List (Nat × SVal)}
def ahead (c m : List Int) (i : Nat) : Nat := (sitesF c m (startsF c m i)).length
theorem sitesF_app (c m l l' : List Int) : sitesF c m (l ++ l') = sitesF c m l ++ sitesF c m l' := by simp [sitesF]
theorem sitesF_one (c m : List Int) (a : Int) : sitesF c m [a] = siteOf c m a := by simp [sitesF]
theorem siteOf_at {c m : List Int} {a : Int} {s : St} (h : s ∈ siteOf c m a) : s.at_ = a := by
 unfold siteOf at h
 simp only at h
 split at h
 ·simp only [List.mem_singleton] at h; rw [h]
 ·cases h
def sitesAt (c m : List Int) (i : Nat) : List St := if m.getD i 0 = 1 ∧ i < c.length then siteOf c m i else []
theorem sites_succ (c m : List Int) (i : Nat) : sitesF c m (startsF c m (i + 1)) = sitesF c m (startsF c m i) ++ sitesAt c m i := by
 have e : startsF c m (i + 1) = if m.getD i 0 = 1 ∧ i < c.length then startsF c m i ++ [(i : Int)] else startsF c m i := rfl
 rw [e]
 unfold sitesAt
 split
 ·rw [sitesF_app, sitesF_one]
 ·rw [List.append_nil]
theorem sites_tail (c m : List Int) (i : Nat) : ∀ k, ∃ X, sitesF c m (startsF c m (i + k)) = sitesF c m (startsF c m i) ++ X ∧ ∀ s ∈ X, (i : Int) ≤ s.at_
 | 0 => ⟨[], by simp, by simp⟩
 | k + 1 => by
  obtain ⟨X, h1, h2⟩ := sites_tail c m i k
  refine ⟨X ++ sitesAt c m (i + k), ?_, fun s hs => ?_⟩
  ·rw [show i + (k + 1) = (i + k) + 1 by omega, sites_succ, h1, List.append_assoc]
  ·rcases List.mem_append.1 hs with h | h
   ·exact h2 s h
   ·unfold sitesAt at h
    split at h
    ·rw [siteOf_at h]; omega
    ·cases h
def isF (c m : List Int) (i : Nat) : Bool := decide (m.getD i 0 = 1) && (decide (isaClass (c.getD i 0 / 16777216) = 2) || decide (isaClass (c.getD i 0 / 16777216) = 3))
theorem ahead_le (c m : List Int) (i : Nat) : ahead c m i ≤ i := Nat.le_trans (sitesF_len c m _) (startsF_len c m i)
theorem finds {d c m : List Int} {dr cr : List Rel} {sy : List Sm} (hv : (validE d c m dr cr sy).isErr = false) {i : Nat} (hi : i < c.length) :
  (isF c m i = true → ahead c m i < (sitesM d c m dr cr sy).length ∧ ((sitesM d c m dr cr sy).getD (ahead c m i) RT.site.dflt).at_ = i ∧ ((sitesM d c m dr cr sy).getD (ahead c m i) RT.site.dflt).cls = isaClass (c.getD i 0 / 16777216) ∧
   ((sitesM d c m dr cr sy).getD (ahead c m i) RT.site.dflt).i.op = c.getD i 0 / 16777216 ∧ ahead c m (i + 1) = ahead c m i + 1) ∧
  (isF c m i = false → (ahead c m i < (sitesM d c m dr cr sy).length → ((sitesM d c m dr cr sy).getD (ahead c m i) RT.site.dflt).at_ ≠ i) ∧ ahead c m (i + 1) = ahead c m i) := by
 obtain ⟨v1, v2, _, _, _, _, v3, _⟩ := valid_size hv
 have hs : sitesM d c m dr cr sy = sitesF c m (startsF c m m.length) := by unfold sitesM; rw [if_neg (by rw [hv]; simp)]
 obtain ⟨X, h1, h2⟩ := sites_tail c m (i + 1) (m.length - (i + 1))
 rw [show i + 1 + (m.length - (i + 1)) = m.length by omega] at h1
 have hsucc := sites_succ c m i
 rw [hs, h1, hsucc]
 have hw := firstE_all (fun i => wordE_np c m i) v3 i hi
 have hah : ahead c m (i + 1) = ahead c m i + (sitesAt c m i).length := by unfold ahead; rw [hsucc, List.length_append]
 have hop : m.getD i 0 = 1 → insI c m i = ofF (c.getD i 0) (nextW c i) ∧ ofOk (c.getD i 0) = true := fun hm => by
  have hw' : (wordE c m i).isErr = false := hw
  unfold wordE at hw'
  rw [Int.toNat_natCast, if_pos hm] at hw'
  split at hw'
  ·cases hw'
  ·rename_i hb
   have hb : insB c m i = true := by
    cases hh : insB c m i with
    | true => rfl
    | false => rw [hh] at hb; simp at hb
   have hb' := hb
   unfold insB at hb
   rw [Bool.and_eq_true, Int.toNat_natCast] at hb
   refine ⟨?_, hb.2⟩
   unfold insI
   rw [if_pos hb.1, Int.toNat_natCast]
 have hop2 : m.getD i 0 = 1 → (insI c m i).op = c.getD i 0 / 16777216 := fun hm => by
  obtain ⟨e1, e2⟩ := hop hm
  rw [e1]; unfold ofF; rw [if_pos e2]
 refine ⟨fun h => ?_, fun h => ?_⟩
 ·unfold isF at h
  rw [Bool.and_eq_true] at h
  have hm := of_decide_eq_true h.1
  have hS : sitesAt c m i = [⟨i, isaClass (insI c m i).op, insI c m i⟩] := by
   unfold sitesAt
   rw [if_pos ⟨hm, hi⟩]
   unfold siteOf
   simp only
   rw [hop2 hm, if_pos h.2]
  rw [hS] at hah ⊢
  have hg : (sitesF c m (startsF c m i) ++ [(⟨i, isaClass (insI c m i).op, insI c m i⟩ : St)] ++ X).getD (ahead c m i) RT.site.dflt = (⟨i, isaClass (insI c m i).op, insI c m i⟩ : St) := by
   unfold ahead
   rw [List.append_assoc, List.getD_eq_getElem?_getD, List.getElem?_append_right (Nat.le_refl _)]
   simp
  rw [hg]
  refine ⟨by unfold ahead; simp, rfl, by rw [hop2 hm], hop2 hm, hah⟩
 ·have hS : sitesAt c m i = [] := by
   unfold sitesAt
   split
   ·rename_i hm
    unfold siteOf
    simp only
    rw [hop2 hm.1, if_neg]
    intro hh
    unfold isF at h
    rw [hh, decide_eq_true hm.1] at h
    cases h
   ·rfl
  rw [hS] at hah ⊢
  refine ⟨fun hlt => ?_, hah⟩
  rw [List.append_nil] at hlt ⊢
  rw [List.length_append] at hlt
  unfold ahead at hlt ⊢
  rw [List.getD_eq_getElem?_getD, List.getElem?_append_right (Nat.le_refl _), Nat.sub_self]
  cases X with
  | nil => simp at hlt
  | cons x X =>
   have := h2 x (List.mem_cons_self ..)
   simp only [List.getElem?_cons_zero, Option.getD_some]
   omega
def hcW : Int := wordW 96 0 0 0 0
def markW (w : Int) : Int := bits .or .u32 markI w
def rwC (c m : List Int) : Nat → List Int
 | 0 => []
 | i + 1 => rwC c m i ++ if isF c m i = true then [hcW, markW (c.getD i 0)] else [c.getD i 0]
def rwM (c m : List Int) : Nat → List Int
 | 0 => []
 | i + 1 => rwM c m i ++ if isF c m i = true then [1, 0] else [m.getD i 0]
def rwT (c m : List Int) : Nat → List Int
 | 0 => []
 | i + 1 => rwT c m i ++ [((rwC c m i).length : Int)]
theorem rwT_len (c m : List Int) : ∀ i, (rwT c m i).length = i
 | 0 => rfl
 | i + 1 => by rw [rwT, List.length_append, rwT_len c m i]; rfl
theorem rwC_len (c m : List Int) : ∀ i, (rwC c m i).length ≤ 2 * i ∧ (rwM c m i).length = (rwC c m i).length
 | 0 => ⟨Nat.le_refl _, rfl⟩
 | i + 1 => by
  have h := rwC_len c m i
  rw [rwC, rwM]
  simp only [List.length_append]
  split <;> simp only [List.length_cons, List.length_nil] <;> omega
def placeI (T : List Int) (i : Int) : Int := T.getD i.toNat 0
def relTo (T : List Int) (r : Rel) : Rel := { r with at_ := placeI T r.at_ }
def symTo (T : List Int) (s : Sm) : Sm := if s.in_ = 2 then { s with value := placeI T s.value } else s
def upTo {α : Type} (f : α → α) (n : Nat) (l : List α) : List α := (l.take n).map f ++ l.drop n
theorem upTo_zero {α : Type} (f : α → α) (l : List α) : upTo f 0 l = l := by simp [upTo]
theorem upTo_all {α : Type} (f : α → α) (l : List α) : upTo f l.length l = l.map f := by simp [upTo]
theorem upTo_len {α : Type} (f : α → α) (n : Nat) (l : List α) : (upTo f n l).length = l.length := by simp [upTo]; omega
theorem upTo_get {α : Type} (f : α → α) (d : α) {n : Nat} {l : List α} (h : n < l.length) : (upTo f n l).getD n d = l.getD n d := by
 unfold upTo
 rw [List.getD_eq_getElem?_getD, List.getElem?_append_right (by simp; omega)]
 simp [Nat.min_eq_left (Nat.le_of_lt h)]
theorem take_get1 {α : Type} (l : List α) (d : α) {i : Nat} (h : i < l.length) : l.take (i + 1) = l.take i ++ [l.getD i d] := by rw [List.take_add_one, List.getElem?_eq_getElem h]; simp [h]
theorem upTo_set {α : Type} (f : α → α) (d : α) {n : Nat} {l : List α} (h : n < l.length) : (upTo f n l).set n (f (l.getD n d)) = upTo f (n + 1) l := by
 unfold upTo
 have hl : ((l.take n).map f).length = n := by simp; omega
 rw [List.set_append_right _ _ (by omega), hl, Nat.sub_self, List.drop_eq_getElem_cons h, List.set_cons_zero, take_get1 l d h, List.map_append, List.append_assoc]
 rfl
def rwTo (c m : List Int) : List Int := rwT c m c.length
theorem drop_head {α : Type} (L : List α) (A : Nat) (d : α) : (L.drop A).getD 0 d = L.getD A d := by
 rw [List.getD_eq_getElem?_getD, List.getD_eq_getElem?_getD, List.getElem?_drop, Nat.add_zero]
abbrev obBox (d c m : List Int) (dr cr : List Rel) (sy : List Sm) : Option Cont := some (.cells [.ro .u32 d, .ro .u32 c, .ro .u8 m, .ro .rel dr, .ro .rel cr, .ro .sym sy])
def hpRw (d c m : List Int) (dr cr : List Rel) (sy : List Sm) (T C M : List Int) : List (Nat × Option Cont) := [(0, obBox d c m dr cr sy), (1, some (.cells [.nilslice, .nilslice, .nilslice, .nilslice, .nilslice, .nilslice])), (2, some (.cells [.own 4, .own 5, .own 6, .own 7, .own 8, .own 9])), (3, some (.recs .i64 T)), (4, some (.recs .u32 d)), (5, some (.recs .u32 C)), (6, some (.recs .u8 M)), (7, some (.recs .rel dr)), (8, some (.recs .rel cr)), (9, some (.recs .sym sy))]
def frRw (c : List Int) (L : List St) (i : Nat) : List (Nat × SVal) := [(1, .ptr 0 0), (2, .ptr 1 0), (5, .ro .site L), (7, .int .u32 (.full hcW)), (9, .ptr 2 0), (10, .own 3), (44, .ro .u32 c), (45, .int .i64 (.full c.length)), (46, .int .i64 (.sym i 0 1000000))]
def sitesD (d c m : List Int) (dr cr : List Rel) (sy : List Sm) (i : Nat) : List St := (sitesM d c m dr cr sy).drop (ahead c m i)
def rwCut (d c m : List Int) (dr cr : List Rel) (sy : List Sm) (i : Nat) : LSum := cutL { fr := frRw c (sitesD d c m dr cr sy i) i ++ [(11, .int .i64 (.sym i 0 1000000)), (12, .int .u32 (.full (c.getD i 0)))], hp := hpRw d c m dr cr sy (rwT c m (i + 1)) (rwC c m i) (rwM c m i), next := 10, sz := 154 }
theorem rwTo_len (c m : List Int) : (rwTo c m).length = c.length := rwT_len c m c.length
theorem relocs_fine {d c m : List Int} {dr cr : List Rel} {sy : List Sm} (h : (relocsE d c m dr cr sy).isErr = false) : (firstE (drE d dr sy) dr.length).isErr = false ∧ (firstE (crE c m cr sy) cr.length).isErr = false ∧ (firstE (needE c m cr) c.length).isErr = false := by
 unfold relocsE at h
 split at h
 ·rename_i h1; rw [h] at h1; cases h1
 ·rename_i h1
  split at h
  ·rename_i h2; rw [h] at h2; cases h2
  ·rename_i h2
   exact ⟨by simpa using h1, by simpa using h2, h⟩
theorem crE_np (c m : List Int) (cr : List Rel) (sy : List Sm) (i : Nat) : (crE c m cr sy i).isPlaced = false := by
 unfold crE; simp only; split
 ·rfl
 ·exact relocE_np
theorem valid_cr {d c m : List Int} {dr cr : List Rel} {sy : List Sm} (h : (validE d c m dr cr sy).isErr = false) {i : Nat} (hi : i < cr.length) : 0 ≤ (cr.getD i RT.rel.dflt).at_ ∧ (cr.getD i RT.rel.dflt).at_ < c.length := by
 obtain ⟨_, _, _, _, _, _, _, _, v9⟩ := valid_size h
 have := firstE_all (fun i => crE_np c m cr sy i) (relocs_fine v9).2.1 i hi
 unfold crE at this
 simp only at this
 split at this
 ·cases this
 ·obtain ⟨h1, h2, _⟩ := relocE_ok this; exact ⟨h1, h2⟩
theorem valid_sy {d c m : List Int} {dr cr : List Rel} {sy : List Sm} (h : (validE d c m dr cr sy).isErr = false) {i : Nat} (hi : i < sy.length) : symFine d c m (sy.getD i RT.sym.dflt).in_ (sy.getD i RT.sym.dflt).value (sy.getD i RT.sym.dflt).global = true ∧ symOk (sy.getD i RT.sym.dflt).name = true := by
 obtain ⟨_, _, _, _, _, _, _, v8, _⟩ := valid_size h
 have := firstE_all (fun i => symE_np d c m _ _ _ _ _) v8 i hi
 unfold syE symE at this
 split at this
 ·cases this
 ·rename_i hk
  split at this
  ·cases this
  ·split at this
   ·rename_i hf; exact ⟨hf, by simpa using hk⟩
   ·cases this
theorem valid_code {d c m : List Int} {dr cr : List Rel} {sy : List Sm} (h : (validE d c m dr cr sy).isErr = false) {i : Nat} (hi : i < sy.length) (h2 : (sy.getD i RT.sym.dflt).in_ = 2) : 0 ≤ (sy.getD i RT.sym.dflt).value ∧ (sy.getD i RT.sym.dflt).value < c.length := by
 have := (valid_sy h hi).1
 unfold symFine at this
 rw [if_neg (by omega), if_pos h2] at this
 simp at this
 exact this.1
def HrwA (d c m : List Int) (dr cr : List Rel) (sy : List Sm) (i : Nat) : SState := { fr := frRw c (sitesD d c m dr cr sy i) i, hp := hpRw d c m dr cr sy (rwT c m i) (rwC c m i) (rwM c m i), next := 10, sz := 154 }
def XrwA (d c m : List Int) (dr cr : List Rel) (sy : List Sm) : SState := { fr := [(1, .ptr 0 0), (2, .ptr 1 0), (9, .ptr 2 0), (10, .own 3)], hp := hpRw d c m dr cr sy (rwTo c m) (rwC c m c.length) (rwM c m c.length), next := 10, sz := 154 }
def LrwA (d c m : List Int) (dr cr : List Rel) (sy : List Sm) : LSum := ⟨HrwA d c m dr cr sy 0, fun k => k (.exit 0) (XrwA d c m dr cr sy), (validE d c m dr cr sy).isErr = false⟩
theorem brwA (rest : List (Nat × SVal)) (d c m : List Int) (dr cr : List Rel) (sy : List Sm) (i : Nat) : (Tr.sat (rnd1 (env (G7 ++ rest) [(59, kSites), (58, kWord), (60, kCloneO)]) (fun _ => True) (c.length) (HrwA d c m dr cr sy) 0 (XrwA d c m dr cr sy) i) (run (env (G7 ++ rest) [(59, kSites), (58, kWord), (60, kCloneO)]) [(1000013, rwCut d c m dr cr sy i)] (loopN (bodyOf Tryd.f46) 0) (HrwA d c m dr cr sy i) .leaf)) = (
 IT (decide ((↑i : Int) < (↑(List.length c) : Int))) (RQ (0 ≤ (↑i : Int) ∧ (↑i : Int) < (↑(List.length c) : Int)) (RQ (List.length (rwT c m i) + List.length [(↑(List.length (rwC c m i)) : Int)] ≤ 137438953472) (RQ (sitesD d c m dr cr sy i = sitesD d c m dr cr sy i ∧ hcW = hcW ∧ c = c ∧ (↑(List.length c) : Int) = (↑(List.length c) : Int) ∧ (↑i : Int) = (↑i : Int) ∧ (↑i : Int) = (↑i : Int) ∧ List.getD c (Int.toNat (↑i : Int)) (RT.dflt RT.u32) = List.getD c i (0 : Int) ∧ d = d ∧ c = c ∧ m = m ∧ dr = dr ∧ cr = cr ∧ sy = sy ∧ rwT c m i ++ [(↑(List.length (rwC c m i)) : Int)] = rwT c m (i + 1) ∧ d = d ∧ rwC c m i = rwC c m i ∧ rwM c m i = rwM c m i ∧ dr = dr ∧ cr = cr ∧ sy = sy) (RQ (decide (0 < (↑(List.length (sitesD d c m dr cr sy i)) : Int)) = true → (0 : Int) ≤ (0 : Int) ∧ 0 < (↑(List.length (sitesD d c m dr cr sy i)) : Int)) (IT (decide (0 < (↑(List.length (sitesD d c m dr cr sy i)) : Int)) && decide ((List.getD (sitesD d c m dr cr sy i) (Int.toNat (0 : Int)) (RT.dflt RT.site)).at_ = (↑i : Int))) (RQ ((0 : Int) ≤ (1 : Int) ∧ (1 : Int) ≤ (↑(List.length (sitesD d c m dr cr sy i)) : Int)) (RQ (List.length (rwC c m i) + List.length [hcW, bits BinOp.or IntKind.u32 (2147483648 : Int) (List.getD c i (0 : Int))] ≤ 137438953472) (RQ (List.length (rwM c m i) + List.length [(1 : Int), (0 : Int)] ≤ 137438953472) (i < List.length c ∧ True ∧ pieceL (sitesD d c m dr cr sy i) (some (SI.lit (1 : Int))) none = sitesD d c m dr cr sy (i + 1) ∧ (1610612736 : Int) = hcW ∧ c = c ∧ (↑(List.length c) : Int) = (↑(List.length c) : Int) ∧ (↑i : Int) + 1 = (↑(i + 1) : Int) ∧ (0 ≤ (↑(i + 1) : Int) ∧ (↑(i + 1) : Int) ≤ 1000000) ∧ d = d ∧ c = c ∧ m = m ∧ dr = dr ∧ cr = cr ∧ sy = sy ∧ rwT c m (i + 1) = rwT c m (i + 1) ∧ d = d ∧ rwC c m i ++ [hcW, bits BinOp.or IntKind.u32 (2147483648 : Int) (List.getD c i (0 : Int))] = rwC c m (i + 1) ∧ rwM c m i ++ [(1 : Int), (0 : Int)] = rwM c m (i + 1) ∧ dr = dr ∧ cr = cr ∧ sy = sy)))) (RQ (List.length (rwC c m i) + List.length [List.getD c i (0 : Int)] ≤ 137438953472) (RQ (0 ≤ (↑i : Int) ∧ (↑i : Int) < (↑(List.length m) : Int)) (RQ (List.length (rwM c m i) + List.length [List.getD m (Int.toNat (↑i : Int)) (RT.dflt RT.u8)] ≤ 137438953472) (i < List.length c ∧ True ∧ sitesD d c m dr cr sy i = sitesD d c m dr cr sy (i + 1) ∧ (1610612736 : Int) = hcW ∧ c = c ∧ (↑(List.length c) : Int) = (↑(List.length c) : Int) ∧ (↑i : Int) + 1 = (↑(i + 1) : Int) ∧ (0 ≤ (↑(i + 1) : Int) ∧ (↑(i + 1) : Int) ≤ 1000000) ∧ d = d ∧ c = c ∧ m = m ∧ dr = dr ∧ cr = cr ∧ sy = sy ∧ rwT c m (i + 1) = rwT c m (i + 1) ∧ d = d ∧ rwC c m i ++ [List.getD c i (0 : Int)] = rwC c m (i + 1) ∧ rwM c m i ++ [List.getD m (Int.toNat (↑i : Int)) (RT.dflt RT.u8)] = rwM c m (i + 1) ∧ dr = dr ∧ cr = cr ∧ sy = sy))))))))) (Nat.beq (0 : Nat) (0 : Nat) = true ∧ d = d ∧ c = c ∧ m = m ∧ dr = dr ∧ cr = cr ∧ sy = sy ∧ rwT c m i = rwTo c m ∧ d = d ∧ rwC c m i = rwC c m (List.length c) ∧ rwM c m i = rwM c m (List.length c) ∧ dr = dr ∧ cr = cr ∧ sy = sy)) := by kernel_rfl
set_option maxHeartbeats 4000000 in
theorem lrwA (d c m : List Int) (dr cr : List Rel) (sy : List Sm) {W : World} {R own0 : Nat → Prop} {ρ0 : Nat → Option Value} (hown : HownOk (env (G7 ++ rest) [(59, kSites), (58, kWord), (60, kCloneO)]) own0 ρ0) : LOk Tryd.prog (env (G7 ++ rest) [(59, kSites), (58, kWord), (60, kCloneO)]) (ctx ea has) (G7 ++ rest) W R own0 ρ0 (loopN (bodyOf Tryd.f46) 0) (LrwA d c m dr cr sy) := by
 refine loop1_ok (J := fun _ => True) (N := c.length) (H := HrwA d c m dr cr sy) (X := XrwA d c m dr cr sy) (env_ok (con := [(59, kSites), (58, kWord), (60, kCloneO)]) ⟨cSites, cWord, cCloneO, trivial⟩) hown (ls := fun i => [(1000013, rwCut d c m dr cr sy i)]) (fun i => noSums (by kernel_rfl)) (fun hm i hi hj => ?_) 0 (fun hm => by first | exact Nat.zero_le _ | omega) (fun hm => trivial)
 rw [brwA rest d c m dr cr sy i]
 delta RQ IT
 have d0 : RT.u32.dflt = (0 : Int) := rfl
 have d1 : RT.u8.dflt = (0 : Int) := rfl
 have t0 : Int.toNat 0 = 0 := rfl
 simp only [Int.toNat_natCast, eq_self, true_and, and_true, d0, d1, t0]
 obtain ⟨v1, v2, _⟩ := valid_size hm
 have hT := rwT_len c m i
 have hC := rwC_len c m i
 have eS : sitesD d c m dr cr sy i = (sitesM d c m dr cr sy).drop (ahead c m i) := rfl
 have eS2 : sitesD d c m dr cr sy (i + 1) = (sitesM d c m dr cr sy).drop (ahead c m (i + 1)) := rfl
 refine ⟨fun h => ?_, fun h => ?_⟩
 ·have h := of_decide_eq_true h
  have hlt : i < c.length := by omega
  obtain ⟨f1, f2⟩ := finds hm hlt
  refine ⟨by omega, fun _ => ⟨by rw [hT]; simp only [List.length_singleton]; omega, fun _ => ⟨rfl, fun _ => ⟨fun h => (by have := of_decide_eq_true h; omega), fun _ => ⟨fun h => ?_, fun h => ?_⟩⟩⟩⟩⟩
  ·rw [Bool.and_eq_true] at h
   have q1 := of_decide_eq_true h.1
   have q2 := of_decide_eq_true h.2
   rw [eS, drop_head] at q2
   rw [eS, List.length_drop] at q1
   have hF : isF c m i = true := by
    cases hf : isF c m i with
    | true => rfl
    | false => exact ((f2 hf).1 (by omega) q2).elim
   obtain ⟨g1, _, _, _, g5⟩ := f1 hF
   refine ⟨by rw [eS, List.length_drop]; omega, fun _ => ⟨by simp only [List.length_cons, List.length_nil]; omega, fun _ => ⟨by simp only [List.length_cons, List.length_nil]; omega, fun _ => ⟨hlt, ?_, by decide, by omega, by omega, ?_, ?_⟩⟩⟩⟩
   ·rw [eS, eS2, g5]
    show (List.drop _ _).drop (SI.val (.lit 1)).toNat = _
    rw [List.drop_drop]; rfl
   ·rw [rwC, if_pos hF]; rfl
   ·rw [rwM, if_pos hF]
  ·have hF : isF c m i = false := by
    cases hf : isF c m i with
    | false => rfl
    | true =>
     obtain ⟨g1, g2, _⟩ := f1 hf
     rw [eS, drop_head, List.length_drop, decide_eq_true (by omega), decide_eq_true g2] at h
     cases h
   have g5 := (f2 hF).2
   refine ⟨by simp only [List.length_cons, List.length_nil]; omega, fun _ => ⟨by omega, fun _ => ⟨by simp only [List.length_cons, List.length_nil]; omega, fun _ => ⟨hlt, by rw [eS, eS2, g5], by decide, by omega, by omega, ?_, ?_⟩⟩⟩⟩
   ·rw [rwC, hF]; rfl
   ·rw [rwM, hF]; rfl
 ·have h := of_decide_eq_false h
  have e : i = c.length := by omega
  subst e
  exact ⟨rfl, rfl, rfl, rfl⟩
def HrwR (d c m : List Int) (dr cr : List Rel) (sy : List Sm) (i : Nat) : SState := { fr := [(2, .ptr 1 0), (9, .ptr 2 0), (10, .own 3), (102, .int .i64 (.full cr.length)), (103, .int .i64 (.sym i 0 1000000))], hp := [(1, some (.cells [.nilslice, .nilslice, .nilslice, .nilslice, .nilslice, .nilslice])), (2, some (.cells [.own 4, .own 5, .own 6, .own 7, .own 8, .own 9])), (3, some (.recs .i64 (rwTo c m))), (4, some (.recs .u32 d)), (5, some (.recs .u32 (rwC c m c.length))), (6, some (.recs .u8 (rwM c m c.length))), (7, some (.recs .rel dr)), (8, some (.recs .rel (upTo (relTo (rwTo c m)) i cr))), (9, some (.recs .sym sy))], next := 10, sz := 154 }
def XrwR (d c m : List Int) (dr cr : List Rel) (sy : List Sm) : SState := { fr := [(2, .ptr 1 0), (9, .ptr 2 0), (10, .own 3)], hp := [(1, some (.cells [.nilslice, .nilslice, .nilslice, .nilslice, .nilslice, .nilslice])), (2, some (.cells [.own 4, .own 5, .own 6, .own 7, .own 8, .own 9])), (3, some (.recs .i64 (rwTo c m))), (4, some (.recs .u32 d)), (5, some (.recs .u32 (rwC c m c.length))), (6, some (.recs .u8 (rwM c m c.length))), (7, some (.recs .rel dr)), (8, some (.recs .rel (cr.map (relTo (rwTo c m))))), (9, some (.recs .sym sy))], next := 10, sz := 154 }
def LrwR (d c m : List Int) (dr cr : List Rel) (sy : List Sm) : LSum := ⟨HrwR d c m dr cr sy 0, fun k => k (.exit 2) (XrwR d c m dr cr sy), (validE d c m dr cr sy).isErr = false⟩
theorem brwR (rest : List (Nat × SVal)) (d c m : List Int) (dr cr : List Rel) (sy : List Sm) (i : Nat) : (Tr.sat (rnd1 (env (G7 ++ rest) [(59, kSites), (58, kWord), (60, kCloneO)]) (fun _ => True) (cr.length) (HrwR d c m dr cr sy) 2 (XrwR d c m dr cr sy) i) (run (env (G7 ++ rest) [(59, kSites), (58, kWord), (60, kCloneO)]) [] (loopN (bodyOf Tryd.f46) 1) (HrwR d c m dr cr sy i) .leaf)) = (
 IT (decide ((↑i : Int) < (↑(List.length cr) : Int))) (RQ (0 ≤ (↑i : Int) ∧ (↑i : Int) < (↑(List.length (upTo (relTo (rwTo c m)) i cr)) : Int)) (RQ (0 ≤ (List.getD (upTo (relTo (rwTo c m)) i cr) (Int.toNat (↑i : Int)) (RT.dflt RT.rel)).at_ ∧ (List.getD (upTo (relTo (rwTo c m)) i cr) (Int.toNat (↑i : Int)) (RT.dflt RT.rel)).at_ < (↑(List.length (rwTo c m)) : Int)) (RQ (0 ≤ (↑i : Int) ∧ (↑i : Int) < (↑(List.length (upTo (relTo (rwTo c m)) i cr)) : Int)) (i < List.length cr ∧ True ∧ (↑(List.length cr) : Int) = (↑(List.length cr) : Int) ∧ (↑i : Int) + 1 = (↑(i + 1) : Int) ∧ (0 ≤ (↑(i + 1) : Int) ∧ (↑(i + 1) : Int) ≤ 1000000) ∧ rwTo c m = rwTo c m ∧ d = d ∧ rwC c m (List.length c) = rwC c m (List.length c) ∧ rwM c m (List.length c) = rwM c m (List.length c) ∧ dr = dr ∧ List.set (upTo (relTo (rwTo c m)) i cr) (Int.toNat (↑i : Int)) (Rel.mk (List.getD (rwTo c m) (Int.toNat (List.getD (upTo (relTo (rwTo c m)) i cr) (Int.toNat (↑i : Int)) (RT.dflt RT.rel)).at_) (RT.dflt RT.i64)) (List.getD (upTo (relTo (rwTo c m)) i cr) (Int.toNat (↑i : Int)) (RT.dflt RT.rel)).kind (List.getD (upTo (relTo (rwTo c m)) i cr) (Int.toNat (↑i : Int)) (RT.dflt RT.rel)).sym (List.getD (upTo (relTo (rwTo c m)) i cr) (Int.toNat (↑i : Int)) (RT.dflt RT.rel)).add) = upTo (relTo (rwTo c m)) (i + 1) cr ∧ sy = sy)))) (Nat.beq (2 : Nat) (2 : Nat) = true ∧ rwTo c m = rwTo c m ∧ d = d ∧ rwC c m (List.length c) = rwC c m (List.length c) ∧ rwM c m (List.length c) = rwM c m (List.length c) ∧ dr = dr ∧ upTo (relTo (rwTo c m)) i cr = List.map (relTo (rwTo c m)) cr ∧ sy = sy)) := by kernel_rfl
set_option maxHeartbeats 4000000 in
theorem lrwR (d c m : List Int) (dr cr : List Rel) (sy : List Sm) {W : World} {R own0 : Nat → Prop} {ρ0 : Nat → Option Value} (hown : HownOk (env (G7 ++ rest) [(59, kSites), (58, kWord), (60, kCloneO)]) own0 ρ0) : LOk Tryd.prog (env (G7 ++ rest) [(59, kSites), (58, kWord), (60, kCloneO)]) (ctx ea has) (G7 ++ rest) W R own0 ρ0 (loopN (bodyOf Tryd.f46) 1) (LrwR d c m dr cr sy) := by
 refine loop1_ok (J := fun _ => True) (N := cr.length) (H := HrwR d c m dr cr sy) (X := XrwR d c m dr cr sy) (env_ok (con := [(59, kSites), (58, kWord), (60, kCloneO)]) ⟨cSites, cWord, cCloneO, trivial⟩) hown (ls := fun i => []) (fun i => noSums (by kernel_rfl)) (fun hm i hi hj => ?_) 0 (fun hm => by first | exact Nat.zero_le _ | omega) (fun hm => trivial)
 rw [brwR rest d c m dr cr sy i]
 delta RQ IT
 have d0 : RT.i64.dflt = (0 : Int) := rfl
 simp only [Int.toNat_natCast, eq_self, true_and, and_true, d0]
 obtain ⟨v1, v2, v3, v4, v5, v6, _⟩ := valid_size hm
 have hl := upTo_len (relTo (rwTo c m)) i cr
 refine ⟨fun h => ?_, fun h => ?_⟩
 ·have h := of_decide_eq_true h
  have hlt : i < cr.length := by omega
  obtain ⟨g1, g2⟩ := valid_cr hm hlt
  have hT := rwTo_len c m
  have hs := upTo_set (relTo (rwTo c m)) RT.rel.dflt hlt
  rw [upTo_get (relTo (rwTo c m)) RT.rel.dflt hlt]
  exact ⟨by omega, fun _ => ⟨by omega, fun _ => ⟨by omega, fun _ => ⟨hlt, by omega, by omega, hs⟩⟩⟩⟩
 ·have h := of_decide_eq_false h
  have e : i = cr.length := by omega
  subst e
  exact ⟨rfl, upTo_all _ _⟩
def HrwS (d c m : List Int) (dr cr : List Rel) (sy : List Sm) (i : Nat) : SState := { fr := [(2, .ptr 1 0), (9, .ptr 2 0), (10, .own 3), (123, .int .i64 (.full sy.length)), (124, .int .i64 (.sym i 0 1000000))], hp := [(1, some (.cells [.nilslice, .nilslice, .nilslice, .nilslice, .nilslice, .nilslice])), (2, some (.cells [.own 4, .own 5, .own 6, .own 7, .own 8, .own 9])), (3, some (.recs .i64 (rwTo c m))), (4, some (.recs .u32 d)), (5, some (.recs .u32 (rwC c m c.length))), (6, some (.recs .u8 (rwM c m c.length))), (7, some (.recs .rel dr)), (8, some (.recs .rel (cr.map (relTo (rwTo c m))))), (9, some (.recs .sym (upTo (symTo (rwTo c m)) i sy)))], next := 10, sz := 154 }
def XrwS (d c m : List Int) (dr cr : List Rel) (sy : List Sm) : SState := { fr := [(2, .ptr 1 0), (9, .ptr 2 0), (10, .own 3)], hp := [(1, some (.cells [.nilslice, .nilslice, .nilslice, .nilslice, .nilslice, .nilslice])), (2, some (.cells [.own 4, .own 5, .own 6, .own 7, .own 8, .own 9])), (3, some (.recs .i64 (rwTo c m))), (4, some (.recs .u32 d)), (5, some (.recs .u32 (rwC c m c.length))), (6, some (.recs .u8 (rwM c m c.length))), (7, some (.recs .rel dr)), (8, some (.recs .rel (cr.map (relTo (rwTo c m))))), (9, some (.recs .sym (sy.map (symTo (rwTo c m)))))], next := 10, sz := 154 }
def LrwS (d c m : List Int) (dr cr : List Rel) (sy : List Sm) : LSum := ⟨HrwS d c m dr cr sy 0, fun k => k (.exit 4) (XrwS d c m dr cr sy), (validE d c m dr cr sy).isErr = false⟩
theorem brwS (rest : List (Nat × SVal)) (d c m : List Int) (dr cr : List Rel) (sy : List Sm) (i : Nat) : (Tr.sat (rnd1 (env (G7 ++ rest) [(59, kSites), (58, kWord), (60, kCloneO)]) (fun _ => True) (sy.length) (HrwS d c m dr cr sy) 4 (XrwS d c m dr cr sy) i) (run (env (G7 ++ rest) [(59, kSites), (58, kWord), (60, kCloneO)]) [] (loopN (bodyOf Tryd.f46) 2) (HrwS d c m dr cr sy i) .leaf)) = (
 IT (decide ((↑i : Int) < (↑(List.length sy) : Int))) (RQ (0 ≤ (↑i : Int) ∧ (↑i : Int) < (↑(List.length (upTo (symTo (rwTo c m)) i sy)) : Int)) (IT (decide ((List.getD (upTo (symTo (rwTo c m)) i sy) (Int.toNat (↑i : Int)) (RT.dflt RT.sym)).in_ = 2)) (RQ (0 ≤ (List.getD (upTo (symTo (rwTo c m)) i sy) (Int.toNat (↑i : Int)) (RT.dflt RT.sym)).value ∧ (List.getD (upTo (symTo (rwTo c m)) i sy) (Int.toNat (↑i : Int)) (RT.dflt RT.sym)).value < (↑(List.length (rwTo c m)) : Int)) (i < List.length sy ∧ True ∧ (↑(List.length sy) : Int) = (↑(List.length sy) : Int) ∧ (↑i : Int) + 1 = (↑(i + 1) : Int) ∧ (0 ≤ (↑(i + 1) : Int) ∧ (↑(i + 1) : Int) ≤ 1000000) ∧ rwTo c m = rwTo c m ∧ d = d ∧ rwC c m (List.length c) = rwC c m (List.length c) ∧ rwM c m (List.length c) = rwM c m (List.length c) ∧ dr = dr ∧ List.map (relTo (rwTo c m)) cr = List.map (relTo (rwTo c m)) cr ∧ List.set (upTo (symTo (rwTo c m)) i sy) (Int.toNat (↑i : Int)) (Sm.mk (List.getD (upTo (symTo (rwTo c m)) i sy) (Int.toNat (↑i : Int)) (RT.dflt RT.sym)).name (List.getD (upTo (symTo (rwTo c m)) i sy) (Int.toNat (↑i : Int)) (RT.dflt RT.sym)).in_ (List.getD (rwTo c m) (Int.toNat (List.getD (upTo (symTo (rwTo c m)) i sy) (Int.toNat (↑i : Int)) (RT.dflt RT.sym)).value) (RT.dflt RT.i64)) (List.getD (upTo (symTo (rwTo c m)) i sy) (Int.toNat (↑i : Int)) (RT.dflt RT.sym)).global) = upTo (symTo (rwTo c m)) (i + 1) sy)) (i < List.length sy ∧ True ∧ (↑(List.length sy) : Int) = (↑(List.length sy) : Int) ∧ (↑i : Int) + 1 = (↑(i + 1) : Int) ∧ (0 ≤ (↑(i + 1) : Int) ∧ (↑(i + 1) : Int) ≤ 1000000) ∧ rwTo c m = rwTo c m ∧ d = d ∧ rwC c m (List.length c) = rwC c m (List.length c) ∧ rwM c m (List.length c) = rwM c m (List.length c) ∧ dr = dr ∧ List.map (relTo (rwTo c m)) cr = List.map (relTo (rwTo c m)) cr ∧ upTo (symTo (rwTo c m)) i sy = upTo (symTo (rwTo c m)) (i + 1) sy))) (Nat.beq (4 : Nat) (4 : Nat) = true ∧ rwTo c m = rwTo c m ∧ d = d ∧ rwC c m (List.length c) = rwC c m (List.length c) ∧ rwM c m (List.length c) = rwM c m (List.length c) ∧ dr = dr ∧ List.map (relTo (rwTo c m)) cr = List.map (relTo (rwTo c m)) cr ∧ upTo (symTo (rwTo c m)) i sy = List.map (symTo (rwTo c m)) sy)) := by kernel_rfl
set_option maxHeartbeats 4000000 in
theorem lrwS (d c m : List Int) (dr cr : List Rel) (sy : List Sm) {W : World} {R own0 : Nat → Prop} {ρ0 : Nat → Option Value} (hown : HownOk (env (G7 ++ rest) [(59, kSites), (58, kWord), (60, kCloneO)]) own0 ρ0) : LOk Tryd.prog (env (G7 ++ rest) [(59, kSites), (58, kWord), (60, kCloneO)]) (ctx ea has) (G7 ++ rest) W R own0 ρ0 (loopN (bodyOf Tryd.f46) 2) (LrwS d c m dr cr sy) := by
 refine loop1_ok (J := fun _ => True) (N := sy.length) (H := HrwS d c m dr cr sy) (X := XrwS d c m dr cr sy) (env_ok (con := [(59, kSites), (58, kWord), (60, kCloneO)]) ⟨cSites, cWord, cCloneO, trivial⟩) hown (ls := fun i => []) (fun i => noSums (by kernel_rfl)) (fun hm i hi hj => ?_) 0 (fun hm => by first | exact Nat.zero_le _ | omega) (fun hm => trivial)
 rw [brwS rest d c m dr cr sy i]
 delta RQ IT
 have d0 : RT.i64.dflt = (0 : Int) := rfl
 simp only [Int.toNat_natCast, eq_self, true_and, and_true, d0]
 obtain ⟨v1, v2, v3, v4, v5, v6, _⟩ := valid_size hm
 have hl := upTo_len (symTo (rwTo c m)) i sy
 refine ⟨fun h => ?_, fun h => ?_⟩
 ·have h := of_decide_eq_true h
  have hlt : i < sy.length := by omega
  have hT := rwTo_len c m
  have hs := upTo_set (symTo (rwTo c m)) RT.sym.dflt hlt
  have hc := @valid_code _ _ _ _ _ _ hm i hlt
  simp only [upTo_get (symTo (rwTo c m)) RT.sym.dflt hlt]
  refine ⟨by omega, fun _ => ⟨fun g => ?_, fun g => ?_⟩⟩
  ·have g := of_decide_eq_true g
   have := hc g
   rw [symTo, if_pos g] at hs
   exact ⟨by omega, fun _ => ⟨hlt, by omega, by omega, hs⟩⟩
  ·have g := of_decide_eq_false g
   rw [symTo, if_neg g] at hs
   refine ⟨hlt, by omega, by omega, ?_⟩
   rw [← hs]
   refine (List.ext_getElem? fun j => ?_)
   rw [List.getElem?_set]
   split
   ·rename_i e
    subst e
    rw [if_pos (by rw [hl]; exact hlt)]
    have hg := upTo_get (symTo (rwTo c m)) RT.sym.dflt hlt
    rw [List.getD_eq_getElem?_getD, List.getElem?_eq_getElem (by rw [hl]; exact hlt), Option.getD_some] at hg
    rw [List.getElem?_eq_getElem (by rw [hl]; exact hlt), hg]
   ·rfl
 ·have h := of_decide_eq_false h
  have e : i = sy.length := by omega
  subst e
  exact ⟨rfl, upTo_all _ _⟩
def doE (d c m : List Int) (dr cr : List Rel) (sy : List Sm) : FErr :=
 if (validE d c m dr cr sy).isErr = true then validE d c m dr cr sy else if 2048 < c.length + (sitesM d c m dr cr sy).length then .bare 104 else .fine
def ifOk {α : Type} (e : FErr) (l : List α) : List α := if e.isErr = true then [] else l
def doC (e : FErr) (c m : List Int) : List Int := ifOk e (rwC c m c.length)
def doM (e : FErr) (c m : List Int) : List Int := ifOk e (rwM c m c.length)
def doR (e : FErr) (c m : List Int) (cr : List Rel) : List Rel := ifOk e (cr.map (relTo (rwTo c m)))
def doS (e : FErr) (c m : List Int) (sy : List Sm) : List Sm := ifOk e (sy.map (symTo (rwTo c m)))
def doT (e : FErr) (c m : List Int) : List Int := ifOk e (rwTo c m ++ [((rwC c m c.length).length : Int)])
def kDo : List SVal → Nat → Acc ORes := fun a n => match a with | [.agg [.ro .u32 d, .ro .u32 c, .ro .u8 m, .ro .rel dr, .ro .rel cr, .ro .sym sy]] => .ret ({ v := .tuple [.agg [.ro .u32 (ifOk (doE d c m dr cr sy) d), .ro .u32 (doC (doE d c m dr cr sy) c m), .ro .u8 (doM (doE d c m dr cr sy) c m), .ro .rel (ifOk (doE d c m dr cr sy) dr), .ro .rel (doR (doE d c m dr cr sy) c m cr), .ro .sym (doS (doE d c m dr cr sy) c m sy)], .ro .i64 (doT (doE d c m dr cr sy) c m), .err (doE d c m dr cr sy)] }) | _ => .fail "Do"
theorem argDo (d c m : List Int) (dr cr : List Rel) (sy : List Sm) : (all (subL tAtN none' [] deep [.agg [.ro .u32 d, .ro .u32 c, .ro .u8 m, .ro .rel dr, .ro .rel cr, .ro .sym sy]] [.agg [.ro .u32 d, .ro .u32 c, .ro .u8 m, .ro .rel dr, .ro .rel cr, .ro .sym sy]])) = (
 d = d ∧ c = c ∧ m = m ∧ dr = dr ∧ cr = cr ∧ sy = sy) := by kernel_rfl
theorem runDo (rest : List (Nat × SVal)) (d : List Int) (c : List Int) (m : List Int) (dr : List Rel) (cr : List Rel) (sy : List Sm) : (Tr.sat (plainQ (.tuple [.agg [.ro .u32 (ifOk (doE d c m dr cr sy) d), .ro .u32 (doC (doE d c m dr cr sy) c m), .ro .u8 (doM (doE d c m dr cr sy) c m), .ro .rel (ifOk (doE d c m dr cr sy) dr), .ro .rel (doR (doE d c m dr cr sy) c m cr), .ro .sym (doS (doE d c m dr cr sy) c m sy)], .ro .i64 (doT (doE d c m dr cr sy) c m), .err (doE d c m dr cr sy)])) (run (env (G7 ++ rest) [(59, kSites), (58, kWord), (60, kCloneO)]) [(11, LrwA d c m dr cr sy), (20, LrwR d c m dr cr sy), (25, LrwS d c m dr cr sy)] (bodyOf Tryd.f46) (start [.agg [.ro .u32 d, .ro .u32 c, .ro .u8 m, .ro .rel dr, .ro .rel cr, .ro .sym sy]] 154) (ends (env (G7 ++ rest) [(59, kSites), (58, kWord), (60, kCloneO)]) Tryd.f46.results.toList))) = (
 IT (!!FErr.isErr (validE d c m dr cr sy)) (ifOk (doE d c m dr cr sy) d = @List.nil (RT.ty RT.u32) ∧ doC (doE d c m dr cr sy) c m = @List.nil (RT.ty RT.u32) ∧ doM (doE d c m dr cr sy) c m = @List.nil (RT.ty RT.u8) ∧ ifOk (doE d c m dr cr sy) dr = @List.nil (RT.ty RT.rel) ∧ doR (doE d c m dr cr sy) c m cr = @List.nil (RT.ty RT.rel) ∧ doS (doE d c m dr cr sy) c m sy = @List.nil (RT.ty RT.sym) ∧ @List.nil (RT.ty RT.i64) = doT (doE d c m dr cr sy) c m ∧ validE d c m dr cr sy = doE d c m dr cr sy) (IT (decide ((2048 : Int) < IntKind.wrap IntKind.i64 ((↑(List.length c) : Int) + (↑(List.length (sitesM d c m dr cr sy)) : Int)))) (ifOk (doE d c m dr cr sy) d = @List.nil (RT.ty RT.u32) ∧ doC (doE d c m dr cr sy) c m = @List.nil (RT.ty RT.u32) ∧ doM (doE d c m dr cr sy) c m = @List.nil (RT.ty RT.u8) ∧ ifOk (doE d c m dr cr sy) dr = @List.nil (RT.ty RT.rel) ∧ doR (doE d c m dr cr sy) c m cr = @List.nil (RT.ty RT.rel) ∧ doS (doE d c m dr cr sy) c m sy = @List.nil (RT.ty RT.sym) ∧ @List.nil (RT.ty RT.i64) = doT (doE d c m dr cr sy) c m ∧ FErr.bare (104 : Int) = doE d c m dr cr sy) (RQ (lenOb d c m dr cr sy) (RQ (FErr.isErr (validE d c m dr cr sy) = false ∧ sitesM d c m dr cr sy = sitesD d c m dr cr sy (0 : Nat) ∧ wordW (96 : Int) (0 : Int) (0 : Int) (0 : Int) (0 : Int) = hcW ∧ c = c ∧ (↑(List.length c) : Int) = (↑(List.length c) : Int) ∧ (0 : Int) = (↑(0 : Nat) : Int) ∧ d = d ∧ c = c ∧ m = m ∧ dr = dr ∧ cr = cr ∧ sy = sy ∧ @List.nil (RT.ty RT.i64) = rwT c m (0 : Nat) ∧ d = d ∧ rwC c m (0 : Nat) = @List.nil (RT.ty RT.u32) ∧ rwM c m (0 : Nat) = @List.nil (RT.ty RT.u8) ∧ dr = dr ∧ cr = cr ∧ sy = sy) (RQ (FErr.isErr (validE d c m dr cr sy) = false ∧ (↑(List.length cr) : Int) = (↑(List.length cr) : Int) ∧ (0 : Int) = (↑(0 : Nat) : Int) ∧ rwTo c m = rwTo c m ∧ d = d ∧ rwC c m (List.length c) = rwC c m (List.length c) ∧ rwM c m (List.length c) = rwM c m (List.length c) ∧ dr = dr ∧ cr = upTo (relTo (rwTo c m)) (0 : Nat) cr ∧ sy = sy) (RQ (FErr.isErr (validE d c m dr cr sy) = false ∧ (↑(List.length sy) : Int) = (↑(List.length sy) : Int) ∧ (0 : Int) = (↑(0 : Nat) : Int) ∧ rwTo c m = rwTo c m ∧ d = d ∧ rwC c m (List.length c) = rwC c m (List.length c) ∧ rwM c m (List.length c) = rwM c m (List.length c) ∧ dr = dr ∧ List.map (relTo (rwTo c m)) cr = List.map (relTo (rwTo c m)) cr ∧ sy = upTo (symTo (rwTo c m)) (0 : Nat) sy) (RQ (List.length (rwTo c m) + List.length [(↑(List.length (rwC c m (List.length c))) : Int)] ≤ 137438953472) (d = ifOk (doE d c m dr cr sy) d ∧ rwC c m (List.length c) = doC (doE d c m dr cr sy) c m ∧ rwM c m (List.length c) = doM (doE d c m dr cr sy) c m ∧ dr = ifOk (doE d c m dr cr sy) dr ∧ List.map (relTo (rwTo c m)) cr = doR (doE d c m dr cr sy) c m cr ∧ List.map (symTo (rwTo c m)) sy = doS (doE d c m dr cr sy) c m sy ∧ rwTo c m ++ [(↑(List.length (rwC c m (List.length c))) : Int)] = doT (doE d c m dr cr sy) c m ∧ FErr.fine = doE d c m dr cr sy)))))))) := by kernel_rfl
set_option maxHeartbeats 4000000 in
theorem cDo : Con ea has (G7 ++ rest) 46 kDo := by
 refine plain_mkB Tryd.func46 154 (con := [(59, kSites), (58, kWord), (60, kCloneO)]) ⟨cSites, cWord, cCloneO, trivial⟩ (fun hA hr hv => ?_) (by kernel_rfl) (by kernel_rfl) Tryd.ntmps46
 unfold kDo at hr; split at hr
 ·rename_i d c m dr cr sy
  have := ret_ok hr; subst this
  refine ⟨_, [(11, LrwA d c m dr cr sy), (20, LrwR d c m dr cr sy), (25, LrwS d c m dr cr sy)], rfl, rfl, .of (argDo d c m dr cr sy) (by simp), rfl, (fun W R ρ0 own0 hown => hl3 (by kernel_rfl) (by kernel_rfl) (lrwA d c m dr cr sy hown) (by kernel_rfl) (lrwR d c m dr cr sy hown) (by kernel_rfl) (lrwS d c m dr cr sy hown)), .of (runDo rest d c m dr cr sy) ?_⟩
  delta RQ IT
  clear hr
  simp only [eq_self, true_and, and_true]
  have hE : doE d c m dr cr sy = _ := doE.eq_1 d c m dr cr sy
  generalize doE d c m dr cr sy = E at *
  refine ⟨fun h => ?_, fun h => ?_⟩
  ·have h : (validE d c m dr cr sy).isErr = true := by simpa using h
   rw [if_pos h] at hE
   rw [hE]
   simp [ifOk, doC, doM, doR, doS, doT, h]
  ·have h : (validE d c m dr cr sy).isErr = false := by simpa using h
   obtain ⟨v1, v2, v3, v4, v5, v6, _⟩ := valid_size h
   have hs : (sitesM d c m dr cr sy).length ≤ c.length := by
    unfold sitesM; rw [if_neg (by rw [h]; simp)]
    have := ahead_le c m m.length
    unfold ahead at this; omega
   have w1 : IntKind.i64.wrap ((c.length : Int) + (sitesM d c m dr cr sy).length) = c.length + (sitesM d c m dr cr sy).length := by rw [IntKind.wrap_i64]; omega
   rw [w1]
   rw [if_neg (by rw [h]; simp)] at hE
   refine ⟨fun g => ?_, fun g => ?_⟩
   ·have g := of_decide_eq_true g
    rw [if_pos (by omega)] at hE
    rw [hE]
    simp [ifOk, doC, doM, doR, doS, doT, FErr.isErr]
   ·have g := of_decide_eq_false g
    rw [if_neg (by omega)] at hE
    rw [hE]
    have hT := rwTo_len c m
    refine ⟨⟨by omega, by omega, by omega, by omega, by omega, by omega⟩, fun _ => ⟨⟨h, rfl, rfl, rfl, rfl, rfl, rfl⟩, fun _ => ⟨⟨h, rfl, (upTo_zero _ _).symm⟩, fun _ => ⟨⟨h, rfl, (upTo_zero _ _).symm⟩, fun _ => ⟨by rw [hT]; simp only [List.length_singleton]; omega, fun _ => ⟨rfl, rfl, rfl, rfl, rfl, rfl, rfl, rfl⟩⟩⟩⟩⟩⟩
 ·cases hr
def kBack : List SVal → Nat → Acc ORes := fun a n => match a with | [.int .u32 w] => .ret ({ v := .tuple [.agg (backI w.val).enc, .bool (.sym (backB w.val))] }) | _ => .fail "Back"
theorem argBack (w : SI) : (all (subL tAtN none' [] deep [.int .u32 w] [.int .u32 (.full w.val)])) = (
 SI.val w = SI.val w) := by kernel_rfl
theorem runBack (rest : List (Nat × SVal)) (w : Int) : (Tr.sat (plainQ (.tuple [.agg (backI w).enc, .bool (.sym (backB w))])) (run (env (G7 ++ rest) [(68, kOf), (53, kTables), (74, kClass)]) [] (bodyOf Tryd.f66) (start [.int .u32 (.full w)] 34) (ends (env (G7 ++ rest) [(68, kOf), (53, kTables), (74, kClass)]) Tryd.f66.results.toList))) = (
 IT (decide (bits BinOp.and IntKind.u32 w (2147483648 : Int) = (0 : Int)) || !ofOk (bits BinOp.andNot IntKind.u32 w (2147483648 : Int)) || !decide (isaClass (ofF (bits BinOp.andNot IntKind.u32 w (2147483648 : Int)) (0 : Int)).op = 2) && !decide (isaClass (ofF (bits BinOp.andNot IntKind.u32 w (2147483648 : Int)) (0 : Int)).op = 3)) ((0 : Int) = (backI w).op ∧ (0 : Int) = (backI w).a ∧ (0 : Int) = (backI w).b ∧ (0 : Int) = (backI w).c ∧ (0 : Int) = (backI w).imm ∧ false = backB w) ((ofF (bits BinOp.andNot IntKind.u32 w (2147483648 : Int)) (0 : Int)).op = (backI w).op ∧ (ofF (bits BinOp.andNot IntKind.u32 w (2147483648 : Int)) (0 : Int)).a = (backI w).a ∧ (ofF (bits BinOp.andNot IntKind.u32 w (2147483648 : Int)) (0 : Int)).b = (backI w).b ∧ (ofF (bits BinOp.andNot IntKind.u32 w (2147483648 : Int)) (0 : Int)).c = (backI w).c ∧ (ofF (bits BinOp.andNot IntKind.u32 w (2147483648 : Int)) (0 : Int)).imm = (backI w).imm ∧ true = backB w)) := by kernel_rfl
set_option maxHeartbeats 4000000 in
theorem cBack : Con ea has (G7 ++ rest) 66 kBack := by
 refine plain_mkB Tryd.func66 34 (con := [(68, kOf), (53, kTables), (74, kClass)]) ⟨cOf, cTables, cClass, trivial⟩ (fun hA hr hv => ?_) (by kernel_rfl) (by kernel_rfl) Tryd.ntmps66
 unfold kBack at hr; split at hr
 ·rename_i w
  have := ret_ok hr; subst this
  refine ⟨_, [], rfl, rfl, .of (argBack w) (by simp), rfl, (fun W R ρ0 own0 hown => noSums (by kernel_rfl)), .of (runBack rest w.val) ?_⟩
  delta IT
  clear hr
  have hb : backB w.val = !(decide (bits BinOp.and IntKind.u32 w.val 2147483648 = 0) || !ofOk (bits BinOp.andNot IntKind.u32 w.val 2147483648) || !decide (isaClass (ofF (bits BinOp.andNot IntKind.u32 w.val 2147483648) 0).op = 2) && !decide (isaClass (ofF (bits BinOp.andNot IntKind.u32 w.val 2147483648) 0).op = 3)) := by
   unfold backB unmark
   simp [Bool.not_or, Bool.not_and]
  refine ⟨fun h => ?_, fun h => ?_⟩
  ·rw [h] at hb
   unfold backI; rw [hb]; exact ⟨rfl, rfl, rfl, rfl, rfl, rfl⟩
  ·rw [h] at hb
   unfold backI; rw [hb]; exact ⟨rfl, rfl, rfl, rfl, rfl, rfl⟩
 ·cases hr
end
end Go.Proofs.YtacmmedhjebfjaaDoor
set_option linter.unusedVariables false
set_option linter.unusedSimpArgs false
set_option linter.unusedSectionVars false
namespace Go.Proofs.YtacmmedhjebfjaaDoor
open Go.RowKit Go.Sy Go.Fac
section
variable {ea : Ear} {has : Int → Prop} {rest : List (Nat × SVal)} [ht : Nonempty (EType ea)]
def insE (e : FErr) (i : Int) : FErr := match e with
 | .fine => .fine
 | .bare n => .placed n i
 | .placed n _ => .placed n i
def kinside : List SVal → Nat → Acc ORes := fun a n => match a with | [.int .i64 i, .err e] => .ret ({ v := .err (insE e i.val), vc := some (e.isErr = true) }) | _ => .fail "inside"
theorem arginside (i : SI) (e : FErr) : (all (subL tAtN none' [] deep [.int .i64 i, .err e] [.int .i64 (.full i.val), .err e])) = (
 SI.val i = SI.val i ∧ e = e) := by kernel_rfl
theorem runinside (rest : List (Nat × SVal)) (i : Int) (e : FErr) : (Tr.sat (plainQ (.err (insE e i))) (run (env (G7 ++ rest) [(61, kErrAs)]) [] (bodyOf Tryd.f47) (start [.int .i64 (.full i), .err e] 18) (ends (env (G7 ++ rest) [(61, kErrAs)]) Tryd.f47.results.toList))) = (
 RQ (FErr.isErr e = true) (IT (FErr.isPlaced e) (RQ (FErr.isPlaced e = true) (RQ (FErr.isPlaced e = true) ((insE e i = match FErr.inner e with | FErr.bare n => FErr.placed n i | x => FErr.fine) ∧ FErr.isErr (FErr.inner e) = true ∧ FErr.isPlaced (FErr.inner e) = false))) ((insE e i = match e with | FErr.bare n => FErr.placed n i | x => FErr.fine) ∧ FErr.isErr e = true ∧ FErr.isPlaced e = false))) := by kernel_rfl
set_option maxHeartbeats 4000000 in
theorem cinside : Con ea has (G7 ++ rest) 47 kinside := by
 refine plain_mkB Tryd.func47 18 (con := [(61, kErrAs)]) ⟨cErrAs, trivial⟩ (fun hA hr hv => ?_) (by kernel_rfl) (by kernel_rfl) Tryd.ntmps47
 unfold kinside at hr; split at hr
 ·rename_i i e
  have := ret_ok hr; subst this
  replace hv := hv _ rfl
  refine ⟨_, [], rfl, rfl, .of (arginside i e) (by simp), rfl, (fun W R ρ0 own0 hown => noSums (by kernel_rfl)), .of (runinside rest i.val e) ?_⟩
  delta RQ IT
  clear hr
  cases e <;> simp [FErr.isErr, FErr.isPlaced, FErr.inner, insE] at hv ⊢
 ·cases hr
def kback : List SVal → Nat → Acc ORes := fun a n => match a with | [.int .u32 w] => .ret ({ v := .bool (.sym (backB w.val)) }) | _ => .fail "back"
theorem argback (w : SI) : (all (subL tAtN none' [] deep [.int .u32 w] [.int .u32 (.full w.val)])) = (
 SI.val w = SI.val w) := by kernel_rfl
theorem runback (rest : List (Nat × SVal)) (w : Int) : (Tr.sat (plainQ (.bool (.sym (backB w)))) (run (env (G7 ++ rest) [(66, kBack)]) [] (bodyOf Tryd.f50) (start [.int .u32 (.full w)] 11) (ends (env (G7 ++ rest) [(66, kBack)]) Tryd.f50.results.toList))) = (
 backB w = backB w) := by kernel_rfl
set_option maxHeartbeats 4000000 in
theorem cback : Con ea has (G7 ++ rest) 50 kback := by
 refine plain_mkB Tryd.func50 11 (con := [(66, kBack)]) ⟨cBack, trivial⟩ (fun hA hr hv => ?_) (by kernel_rfl) (by kernel_rfl) Tryd.ntmps50
 unfold kback at hr; split at hr
 ·rename_i w
  have := ret_ok hr; subst this
  refine ⟨_, [], rfl, rfl, .of (argback w) (by simp), rfl, (fun W R ρ0 own0 hown => noSums (by kernel_rfl)), .of (runback rest w.val) ?_⟩
  clear hr
  rfl
 ·cases hr
abbrev spT : RT := .flat (.int .i64) [.int .i64]
def symAt (l : List Ob) (o s : Int) : Sm := (l.getD o.toNat RT.obj.dflt).syms.getD s.toNat RT.sym.dflt
def kksym0 : List SVal → Nat → Acc ORes := fun a n => match a with | [.rop [.ro .obj l, .any, .any, .any, .any, .any, .any, .any], .agg [.int .i64 o, .int .i64 s]] => .ret ({ v := .agg (RT.sym.enc (symAt l o.val s.val)), vc := some (0 ≤ o.val ∧ o.val < l.length ∧ 0 ≤ s.val ∧ s.val < (l.getD o.val.toNat RT.obj.dflt).syms.length) }) | _ => .fail "ksym0"
theorem argksym0 (l : List Ob) (o s : SI) : (all (subL tAtN none' [] deep [.rop [.ro .obj l, .any, .any, .any, .any, .any, .any, .any], .agg [.int .i64 o, .int .i64 s]] [.rop [.ro .obj l, .any, .any, .any, .any, .any, .any, .any], .agg [.int .i64 (.full o.val), .int .i64 (.full s.val)]])) = (
 l = l ∧ SI.val o = SI.val o ∧ SI.val s = SI.val s) := by kernel_rfl
theorem runksym0 (rest : List (Nat × SVal)) (l : List Ob) (o : Int) (s : Int) : (Tr.sat (plainQ (.agg (RT.sym.enc (symAt l o s)))) (run (env (G7 ++ rest) []) [] (bodyOf Tryd.f42) (start [.rop [.ro .obj l, .any, .any, .any, .any, .any, .any, .any], .agg [.int .i64 (.full o), .int .i64 (.full s)]] 18) (ends (env (G7 ++ rest) []) Tryd.f42.results.toList))) = (
 RQ (0 ≤ o ∧ o < (↑(List.length l) : Int)) (RQ (0 ≤ s ∧ s < (↑(List.length (List.getD l (Int.toNat o) (RT.dflt RT.obj)).syms) : Int)) ((List.getD (List.getD l (Int.toNat o) (RT.dflt RT.obj)).syms (Int.toNat s) (RT.dflt RT.sym)).name = (symAt l o s).name ∧ (List.getD (List.getD l (Int.toNat o) (RT.dflt RT.obj)).syms (Int.toNat s) (RT.dflt RT.sym)).in_ = (symAt l o s).in_ ∧ (List.getD (List.getD l (Int.toNat o) (RT.dflt RT.obj)).syms (Int.toNat s) (RT.dflt RT.sym)).value = (symAt l o s).value ∧ (List.getD (List.getD l (Int.toNat o) (RT.dflt RT.obj)).syms (Int.toNat s) (RT.dflt RT.sym)).global = (symAt l o s).global))) := by kernel_rfl
set_option maxHeartbeats 4000000 in
theorem cksym0 : Con ea has (G7 ++ rest) 42 kksym0 := by
 refine plain_mkB Tryd.func42 18 (con := []) trivial (fun hA hr hv => ?_) (by kernel_rfl) (by kernel_rfl) Tryd.ntmps42
 unfold kksym0 at hr; split at hr
 ·rename_i l o s
  have := ret_ok hr; subst this
  replace hv := hv _ rfl
  refine ⟨_, [], rfl, rfl, .of (argksym0 l o s) (by simp), rfl, (fun W R ρ0 own0 hown => noSums (by kernel_rfl)), .of (runksym0 rest l o.val s.val) ?_⟩
  delta RQ
  clear hr
  obtain ⟨v1, v2, v3, v4⟩ := hv
  exact ⟨⟨v1, v2⟩, fun _ => ⟨⟨v3, v4⟩, fun _ => ⟨rfl, rfl, rfl, rfl⟩⟩⟩
 ·cases hr
abbrev Glb := List (FK.str.ty × spT.ty)
@[simp] theorem castM_self {k : FK} {t : RT} (h : k = k) (h' : t = t) (m : Option (List (k.ty × t.ty))) : castM h h' m = m := rfl
def realM (l : List Ob) (g : Glb) (o s : Int) : Int × Int := if (symAt l o s).in_ = 3 then @gGet _ _ (FK.deq .str) (0, 0) g (symAt l o s).name else (o, s)
def kkreal0 : List SVal → Nat → Acc ORes := fun a n => match a with | [.rop [.ro .obj l, .rom .str (.flat (.int .i64) [.int .i64]) (some g), .any, .any, .any, .any, .any, .any], .int .i64 o, .int .i64 s] => .ret ({ v := .agg [.int .i64 (.full (realM l g o.val s.val).1), .int .i64 (.full (realM l g o.val s.val).2)], vc := some (0 ≤ o.val ∧ o.val < l.length ∧ 0 ≤ s.val ∧ s.val < (l.getD o.val.toNat RT.obj.dflt).syms.length) }) | _ => .fail "kreal0"
theorem argkreal0 (l : List Ob) (g : Glb) (o s : SI) : (all (subL tAtN none' [] deep [.rop [.ro .obj l, .rom .str (.flat (.int .i64) [.int .i64]) (some g), .any, .any, .any, .any, .any, .any], .int .i64 o, .int .i64 s] [.rop [.ro .obj l, .rom .str (.flat (.int .i64) [.int .i64]) (some g), .any, .any, .any, .any, .any, .any], .int .i64 (.full o.val), .int .i64 (.full s.val)])) = (l = l ∧ castM (k := .str) (t := .flat (.int .i64) [.int .i64]) rfl rfl (some g) = some g ∧ o.val = o.val ∧ s.val = s.val) := by kernel_rfl
theorem runkreal0 (rest : List (Nat × SVal)) (l : List Ob) (g : Glb) (o : Int) (s : Int) : (Tr.sat (plainQ (.agg [.int .i64 (.full (realM l g o s).1), .int .i64 (.full (realM l g o s).2)])) (run (env (G7 ++ rest) []) [] (bodyOf Tryd.f41) (start [.rop [.ro .obj l, .rom .str (.flat (.int .i64) [.int .i64]) (some g), .any, .any, .any, .any, .any, .any], .int .i64 (.full o), .int .i64 (.full s)] 32) (ends (env (G7 ++ rest) []) Tryd.f41.results.toList))) = (
 RQ (0 ≤ o ∧ o < (↑(List.length l) : Int)) (RQ (0 ≤ s ∧ s < (↑(List.length (List.getD l (Int.toNat o) (RT.dflt RT.obj)).syms) : Int)) (IT (decide ((List.getD (List.getD l (Int.toNat o) (RT.dflt RT.obj)).syms (Int.toNat s) (RT.dflt RT.sym)).in_ = 3)) ((gGet (RT.dflt (RT.flat (FK.int IntKind.i64) [FK.int IntKind.i64])) (Option.getD (some g) (@List.nil (FK.ty FK.str × RT.ty (RT.flat (FK.int IntKind.i64) [FK.int IntKind.i64])))) (List.getD (List.getD l (Int.toNat o) (RT.dflt RT.obj)).syms (Int.toNat s) (RT.dflt RT.sym)).name).fst = (realM l g o s).fst ∧ (gGet (RT.dflt (RT.flat (FK.int IntKind.i64) [FK.int IntKind.i64])) (Option.getD (some g) (@List.nil (FK.ty FK.str × RT.ty (RT.flat (FK.int IntKind.i64) [FK.int IntKind.i64])))) (List.getD (List.getD l (Int.toNat o) (RT.dflt RT.obj)).syms (Int.toNat s) (RT.dflt RT.sym)).name).snd = (realM l g o s).snd) (o = (realM l g o s).fst ∧ s = (realM l g o s).snd)))) := by kernel_rfl
set_option maxHeartbeats 4000000 in
theorem ckreal0 : Con ea has (G7 ++ rest) 41 kkreal0 := by
 refine plain_mkB Tryd.func41 32 (con := []) trivial (fun hA hr hv => ?_) (by kernel_rfl) (by kernel_rfl) Tryd.ntmps41
 unfold kkreal0 at hr; split at hr
 ·rename_i l g o s
  have := ret_ok hr; subst this
  replace hv := hv _ rfl
  refine ⟨_, [], rfl, rfl, .of (argkreal0 l g o s) (by simp), rfl, (fun W R ρ0 own0 hown => noSums (by kernel_rfl)), .of (runkreal0 rest l g o.val s.val) ?_⟩
  delta RQ IT
  clear hr
  obtain ⟨v1, v2, v3, v4⟩ := hv
  refine ⟨⟨v1, v2⟩, fun _ => ⟨⟨v3, v4⟩, fun _ => ⟨fun h => ?_, fun h => ?_⟩⟩⟩
  ·have h := of_decide_eq_true h
   rw [show realM l g o.val s.val = _ from if_pos h]; exact ⟨rfl, rfl⟩
  ·have h := of_decide_eq_false h
   rw [show realM l g o.val s.val = _ from if_neg h]; exact ⟨rfl, rfl⟩
 ·cases hr
abbrev kksym := borN [.box [.ro .obj, .drop, .drop, .drop, .drop, .drop, .drop, .drop], .any] kksym0
theorem cksym : Con ea has (G7 ++ rest) 42 kksym := borN_ok cksym0 _
end
end Go.Proofs.YtacmmedhjebfjaaDoor
set_option linter.unusedVariables false
set_option linter.unusedSimpArgs false
set_option linter.unusedSectionVars false
namespace Go.Proofs.YtacmmedhjebfjaaDoor
open Go.RowKit Go.Sy Go.Fac
section
variable {ea : Ear} {has : Int → Prop} {rest : List (Nat × SVal)} [ht : Nonempty (EType ea)]
def callB (c m : List Int) (i : Int) : Bool := decide (isaClass (insI c m i).op = 4) && (decide ((c.length : Int) ≤ i + 1) || !backB (c.getD (i + 1).toNat 0))
def wordBE (c m : List Int) (i : Int) : FErr :=
 if m.getD i.toNat 0 = 1 then
  if (!insB c m i || callB c m i) = true then .bare 105
  else if (isaTwo (insI c m i).op && (decide ((c.length : Int) ≤ i + 1) || !decide (m.getD (i + 1).toNat 0 = 0))) = true then .bare 109 else .fine
 else if m.getD i.toNat 0 = 0 then (if (decide (i = 0) || !twoB c m (i - 1)) = true then .bare 109 else .fine)
 else if m.getD i.toNat 0 = 2 then .fine else .bare 109
def kwordB : List SVal → Nat → Acc ORes := fun a n => match a with | [.agg [.ro .u32 d, .ro .u32 c, .ro .u8 m, .ro .rel dr, .ro .rel cr, .ro .sym sy], .int .i64 i, .func 50 []] => .ret ({ v := .err (wordBE c m i.val), vc := some (0 ≤ i.val ∧ i.val < (m.length : Int) ∧ m.length = c.length ∧ m.length ≤ 1000000) }) | _ => .fail "wordB"
theorem argwordB (d c m : List Int) (dr cr : List Rel) (sy : List Sm) (i : SI) : (all (subL tAtN none' [] deep [.agg [.ro .u32 d, .ro .u32 c, .ro .u8 m, .ro .rel dr, .ro .rel cr, .ro .sym sy], .int .i64 i, .func 50 []] [.agg [.ro .u32 d, .ro .u32 c, .ro .u8 m, .ro .rel dr, .ro .rel cr, .ro .sym sy], .int .i64 (.full i.val), .func 50 []])) = (
 d = d ∧ c = c ∧ m = m ∧ dr = dr ∧ cr = cr ∧ sy = sy ∧ SI.val i = SI.val i) := by kernel_rfl
theorem runwordB (rest : List (Nat × SVal)) (d : List Int) (c : List Int) (m : List Int) (dr : List Rel) (cr : List Rel) (sy : List Sm) (i : Int) : (Tr.sat (plainQ (.err (wordBE c m i))) (run (env (G7 ++ rest) [(52, kInstr), (53, kTables), (74, kClass), (54, kTwo), (89, ktwo), (50, kback)]) [] (bodyOf Tryd.f63) (start [.agg [.ro .u32 d, .ro .u32 c, .ro .u8 m, .ro .rel dr, .ro .rel cr, .ro .sym sy], .int .i64 (.full i), .func 50 []] 96) (ends (env (G7 ++ rest) [(52, kInstr), (53, kTables), (74, kClass), (54, kTwo), (89, ktwo), (50, kback)]) Tryd.f63.results.toList))) = (
 RQ (0 ≤ i ∧ i < (↑(List.length m) : Int)) (IT (decide (List.getD m (Int.toNat i) (RT.dflt RT.u8) = 1)) (RQ ((!!insB c m i && decide (isaClass (insI c m i).op = 4) && !decide ((↑(List.length c) : Int) ≤ IntKind.wrap IntKind.i64 (i + 1))) = true → 0 ≤ IntKind.wrap IntKind.i64 (i + 1) ∧ IntKind.wrap IntKind.i64 (i + 1) < (↑(List.length c) : Int)) (IT (!insB c m i || decide (isaClass (insI c m i).op = 4) && (decide ((↑(List.length c) : Int) ≤ IntKind.wrap IntKind.i64 (i + 1)) || !backB (List.getD c (Int.toNat (IntKind.wrap IntKind.i64 (i + 1))) (RT.dflt RT.u32)))) (FErr.bare (105 : Int) = wordBE c m i) (RQ ((isaTwo (insI c m i).op && !decide ((↑(List.length c) : Int) ≤ IntKind.wrap IntKind.i64 (i + 1))) = true → 0 ≤ IntKind.wrap IntKind.i64 (i + 1) ∧ IntKind.wrap IntKind.i64 (i + 1) < (↑(List.length m) : Int)) (IT (isaTwo (insI c m i).op && (decide ((↑(List.length c) : Int) ≤ IntKind.wrap IntKind.i64 (i + 1)) || !decide (List.getD m (Int.toNat (IntKind.wrap IntKind.i64 (i + 1))) (RT.dflt RT.u8) = 0))) (FErr.bare (109 : Int) = wordBE c m i) (FErr.fine = wordBE c m i))))) (IT (decide (List.getD m (Int.toNat i) (RT.dflt RT.u8) = 0)) (IT (decide (i = 0) || !twoB c m (IntKind.wrap IntKind.i64 (i - 1))) (FErr.bare (109 : Int) = wordBE c m i) (FErr.fine = wordBE c m i)) (IT (decide (List.getD m (Int.toNat i) (RT.dflt RT.u8) = 2)) (FErr.fine = wordBE c m i) (FErr.bare (109 : Int) = wordBE c m i))))) := by kernel_rfl
set_option maxHeartbeats 4000000 in
theorem cwordB : Con ea has (G7 ++ rest) 63 kwordB := by
 refine plain_mkB Tryd.func63 96 (con := [(52, kInstr), (53, kTables), (74, kClass), (54, kTwo), (89, ktwo), (50, kback)]) ⟨cInstr, cTables, cClass, cTwo, ctwo, cback, trivial⟩ (fun hA hr hv => ?_) (by kernel_rfl) (by kernel_rfl) Tryd.ntmps63
 unfold kwordB at hr; split at hr
 ·rename_i d c m dr cr sy i
  have := ret_ok hr; subst this
  replace hv := hv _ rfl
  refine ⟨_, [], rfl, rfl, .of (argwordB d c m dr cr sy i) (by simp), rfl, (fun W R ρ0 own0 hown => noSums (by kernel_rfl)), .of (runwordB rest d c m dr cr sy i.val) ?_⟩
  delta RQ IT
  clear hr
  clear hA
  generalize i.val = i at *
  obtain ⟨v1, v2, v3, v4⟩ := hv
  have d1 : RT.u8.dflt = (0 : Int) := rfl
  have w2 : IntKind.i64.wrap (i - 1) = i - 1 := by rw [IntKind.wrap_i64]; omega
  have d2 : RT.u32.dflt = (0 : Int) := rfl
  simp only [d1, d2, w2, wrapS v1 (show i ≤ 9223372036854775806 by omega), decide_eq_true_eq, decide_eq_false_iff_not]
  refine ⟨⟨v1, v2⟩, fun _ => ⟨fun h1 => ⟨fun g => ?_, fun _ => ⟨fun h2 => by rw [wordBE, if_pos h1, if_pos (show (!insB c m i || callB c m i) = true from h2)], fun h2 => ⟨fun h3 => ?_, fun _ => ⟨fun h3 => ?_, fun h3 => ?_⟩⟩⟩⟩, fun h1 => ⟨fun h2 => ⟨fun h3 => ?_, fun h3 => ?_⟩, fun h2 => ⟨fun h3 => ?_, fun h3 => ?_⟩⟩⟩⟩
  ·simp only [Bool.and_eq_true, Bool.not_eq_true', decide_eq_false_iff_not] at g; omega
  ·simp only [Bool.and_eq_true, Bool.not_eq_true', decide_eq_false_iff_not] at h3; omega
  ·rw [wordBE, if_pos h1, if_neg (by rw [show (!insB c m i || callB c m i) = false from h2]; simp), if_pos h3]
  ·rw [wordBE, if_pos h1, if_neg (by rw [show (!insB c m i || callB c m i) = false from h2]; simp), if_neg (by rw [h3]; simp)]
  ·rw [wordBE, if_neg h1, if_pos h2, if_pos h3]
  ·rw [wordBE, if_neg h1, if_pos h2, if_neg (by rw [h3]; simp)]
  ·rw [wordBE, if_neg h1, if_neg h2, if_pos h3]
  ·rw [wordBE, if_neg h1, if_neg h2, if_neg h3]
 ·cases hr
def wdBE (c m : List Int) (i : Nat) : FErr := wordBE c m i
theorem wordBE_np (c m : List Int) (i : Int) : (wordBE c m i).isPlaced = false := by
 unfold wordBE; repeat (first | rfl | split)
def HWordsB (d c m : List Int) (dr cr : List Rel) (sy : List Sm) (i : Nat) : SState := { fr := [(1, .func 50 []), (2, .ptr 0 0), (52, .int .i64 (.full c.length)), (53, .int .i64 (.sym i 0 1000000))], hp := [(0, some (.cells [.ro .u32 d, .ro .u32 c, .ro .u8 m, .ro .rel dr, .ro .rel cr, .ro .sym sy]))], next := 1, sz := 91 }
def XWordsB (d c m : List Int) (dr cr : List Rel) (sy : List Sm) : SState := { fr := [(2, .ptr 0 0)], hp := [(0, some (.cells [.ro .u32 d, .ro .u32 c, .ro .u8 m, .ro .rel dr, .ro .rel cr, .ro .sym sy]))], next := 1, sz := 91 }
def YWordsB (d c m : List Int) (dr cr : List Rel) (sy : List Sm) : SState := { fr := [(4, .err (firstE (wdBE c m) c.length))], hp := [], next := 0, sz := 91 }
def LWordsB (d c m : List Int) (dr cr : List Rel) (sy : List Sm) : LSum := ⟨HWordsB d c m dr cr sy 0, fun k => .ite (!(firstE (wdBE c m) c.length).isErr) (k (.exit 1) (XWordsB d c m dr cr sy)) (k .ret (YWordsB d c m dr cr sy)), c.length ≤ 1000000 ∧ m.length = c.length⟩
theorem bWordsB (rest : List (Nat × SVal)) (d c m : List Int) (dr cr : List Rel) (sy : List Sm) (i : Nat) : (Tr.sat (rnd2 (env (G7 ++ rest) [(63, kwordB), (64, ksymbol), (65, krelocs)]) (fun i => firstE (wdBE c m) i = .fine) (c.length) (HWordsB d c m dr cr sy) 1 (!(firstE (wdBE c m) c.length).isErr) (XWordsB d c m dr cr sy) (YWordsB d c m dr cr sy) i) (run (env (G7 ++ rest) [(63, kwordB), (64, ksymbol), (65, krelocs)]) [] (loopN (bodyOf Tryd.f49) 0) (HWordsB d c m dr cr sy i) .leaf)) = (
 IT (decide ((↑i : Int) < (↑(List.length c) : Int))) (RQ (0 ≤ (↑i : Int) ∧ (↑i : Int) < (↑(List.length m) : Int) ∧ List.length m = List.length c ∧ List.length m ≤ 1000000) (IT (!!FErr.isErr (wordBE c m (↑i : Int))) ((!FErr.isErr (firstE (wdBE c m) (List.length c))) = false ∧ (firstE (wdBE c m) (List.length c) = match wordBE c m (↑i : Int) with | FErr.bare n => FErr.placed n (↑i : Int) | x => FErr.fine) ∧ FErr.isErr (wordBE c m (↑i : Int)) = true ∧ FErr.isPlaced (wordBE c m (↑i : Int)) = false) (i < List.length c ∧ firstE (wdBE c m) (i + 1) = FErr.fine ∧ (↑(List.length c) : Int) = (↑(List.length c) : Int) ∧ (↑i : Int) + 1 = (↑(i + 1) : Int) ∧ (0 ≤ (↑(i + 1) : Int) ∧ (↑(i + 1) : Int) ≤ 1000000) ∧ d = d ∧ c = c ∧ m = m ∧ dr = dr ∧ cr = cr ∧ sy = sy))) (Nat.beq (1 : Nat) (1 : Nat) = true ∧ (!FErr.isErr (firstE (wdBE c m) (List.length c))) = true ∧ d = d ∧ c = c ∧ m = m ∧ dr = dr ∧ cr = cr ∧ sy = sy)) := by kernel_rfl
set_option maxHeartbeats 4000000 in
theorem lWordsB (d c m : List Int) (dr cr : List Rel) (sy : List Sm) {W : World} {R own0 : Nat → Prop} {ρ0 : Nat → Option Value} (hown : HownOk (env (G7 ++ rest) [(63, kwordB), (64, ksymbol), (65, krelocs)]) own0 ρ0) : LOk Tryd.prog (env (G7 ++ rest) [(63, kwordB), (64, ksymbol), (65, krelocs)]) (ctx ea has) (G7 ++ rest) W R own0 ρ0 (loopN (bodyOf Tryd.f49) 0) (LWordsB d c m dr cr sy) := by
 refine loop2_ok (J := fun i => firstE (wdBE c m) i = .fine) (N := c.length) (H := HWordsB d c m dr cr sy) (X := XWordsB d c m dr cr sy) (Y := YWordsB d c m dr cr sy) (env_ok (con := [(63, kwordB), (64, ksymbol), (65, krelocs)]) ⟨cwordB, csymbol, crelocs, trivial⟩) hown (ls := fun i => []) (fun i => noSums (by kernel_rfl)) (fun hm i hi hj => ?_) 0 (fun hm => by first | exact Nat.zero_le _ | omega) (fun hm => rfl)
 rw [bWordsB rest d c m dr cr sy i]
 delta RQ IT
 have hE2 : wdBE c m i = wordBE c m i := rfl
 have hnp := wordBE_np c m i
 generalize wordBE c m i = e at *
 obtain ⟨hm, hmc⟩ := hm
 refine ⟨fun h => ?_, fun h => ?_⟩
 ·have h := of_decide_eq_true h
  have hlt : i < c.length := by omega
  refine ⟨by omega, fun _ => ⟨fun h3 => ?_, fun h3 => ?_⟩⟩
  ·have h3 : e.isErr = true := by simpa using h3
   obtain ⟨g1, g2⟩ := firstE_at hj (by rw [hE2]; exact h3) (by rw [hE2]; exact hnp) hlt
   rw [hE2] at g1
   exact ⟨by rw [g2]; rfl, g1, h3, hnp⟩
  ·have h3 : e.isErr = false := by simpa using h3
   refine ⟨hlt, firstE_fine hj (by rw [hE2]; exact h3), ?_⟩
   simp; omega
 ·have h := of_decide_eq_false h
  have : i = c.length := by omega
  rw [← this, hj]
  simp [FErr.isErr]
def HSymsB (d c m : List Int) (dr cr : List Rel) (sy : List Sm) (i : Nat) : SState := { fr := [(2, .ptr 0 0), (7, .map 1), (70, .ro .sym sy), (71, .int .i64 (.full sy.length)), (72, .int .i64 (.sym i 0 1000000))], hp := [(0, some (.cells [.ro .u32 d, .ro .u32 c, .ro .u8 m, .ro .rel dr, .ro .rel cr, .ro .sym sy])), (1, some (.strMap (mpS sy i)))], next := 2, sz := 91 }
def XSymsB (d c m : List Int) (dr cr : List Rel) (sy : List Sm) : SState := { fr := [(2, .ptr 0 0)], hp := [(0, some (.cells [.ro .u32 d, .ro .u32 c, .ro .u8 m, .ro .rel dr, .ro .rel cr, .ro .sym sy]))], next := 1, sz := 91 }
def YSymsB (d c m : List Int) (dr cr : List Rel) (sy : List Sm) : SState := { fr := [(4, .err (firstE (syE d c m sy) sy.length))], hp := [], next := 0, sz := 91 }
def LSymsB (d c m : List Int) (dr cr : List Rel) (sy : List Sm) : LSum := ⟨HSymsB d c m dr cr sy 0, fun k => .ite (!(firstE (syE d c m sy) sy.length).isErr) (k (.exit 3) (XSymsB d c m dr cr sy)) (k .ret (YSymsB d c m dr cr sy)), sy.length ≤ 1000000 ∧ m.length = c.length⟩
theorem bSymsB (rest : List (Nat × SVal)) (d c m : List Int) (dr cr : List Rel) (sy : List Sm) (i : Nat) : (Tr.sat (rnd2 (env (G7 ++ rest) [(63, kwordB), (64, ksymbol), (65, krelocs)]) (fun i => firstE (syE d c m sy) i = .fine) (sy.length) (HSymsB d c m dr cr sy) 3 (!(firstE (syE d c m sy) sy.length).isErr) (XSymsB d c m dr cr sy) (YSymsB d c m dr cr sy) i) (run (env (G7 ++ rest) [(63, kwordB), (64, ksymbol), (65, krelocs)]) [] (loopN (bodyOf Tryd.f49) 1) (HSymsB d c m dr cr sy i) .leaf)) = (
 IT (decide ((↑i : Int) < (↑(List.length sy) : Int))) (RQ (0 ≤ (↑i : Int) ∧ (↑i : Int) < (↑(List.length sy) : Int)) (RQ (mapGet (mpS sy i) (List.getD sy (Int.toNat (↑i : Int)) (RT.dflt RT.sym)).name ≤ 1000000 ∧ 0 ≤ mapGet (mpS sy i) (List.getD sy (Int.toNat (↑i : Int)) (RT.dflt RT.sym)).name ∧ List.length m = List.length c) (IT (!!FErr.isErr (symE d c m (List.getD sy (Int.toNat (↑i : Int)) (RT.dflt RT.sym)).name (List.getD sy (Int.toNat (↑i : Int)) (RT.dflt RT.sym)).in_ (List.getD sy (Int.toNat (↑i : Int)) (RT.dflt RT.sym)).value (List.getD sy (Int.toNat (↑i : Int)) (RT.dflt RT.sym)).global (mpS sy i))) ((!FErr.isErr (firstE (syE d c m sy) (List.length sy))) = false ∧ (firstE (syE d c m sy) (List.length sy) = match symE d c m (List.getD sy (Int.toNat (↑i : Int)) (RT.dflt RT.sym)).name (List.getD sy (Int.toNat (↑i : Int)) (RT.dflt RT.sym)).in_ (List.getD sy (Int.toNat (↑i : Int)) (RT.dflt RT.sym)).value (List.getD sy (Int.toNat (↑i : Int)) (RT.dflt RT.sym)).global (mpS sy i) with | FErr.bare n => FErr.placed n (↑i : Int) | x => FErr.fine) ∧ FErr.isErr (symE d c m (List.getD sy (Int.toNat (↑i : Int)) (RT.dflt RT.sym)).name (List.getD sy (Int.toNat (↑i : Int)) (RT.dflt RT.sym)).in_ (List.getD sy (Int.toNat (↑i : Int)) (RT.dflt RT.sym)).value (List.getD sy (Int.toNat (↑i : Int)) (RT.dflt RT.sym)).global (mpS sy i)) = true ∧ FErr.isPlaced (symE d c m (List.getD sy (Int.toNat (↑i : Int)) (RT.dflt RT.sym)).name (List.getD sy (Int.toNat (↑i : Int)) (RT.dflt RT.sym)).in_ (List.getD sy (Int.toNat (↑i : Int)) (RT.dflt RT.sym)).value (List.getD sy (Int.toNat (↑i : Int)) (RT.dflt RT.sym)).global (mpS sy i)) = false) (i < List.length sy ∧ firstE (syE d c m sy) (i + 1) = FErr.fine ∧ sy = sy ∧ (↑(List.length sy) : Int) = (↑(List.length sy) : Int) ∧ (↑i : Int) + 1 = (↑(i + 1) : Int) ∧ (0 ≤ (↑(i + 1) : Int) ∧ (↑(i + 1) : Int) ≤ 1000000) ∧ d = d ∧ c = c ∧ m = m ∧ dr = dr ∧ cr = cr ∧ sy = sy ∧ symMp (List.getD sy (Int.toNat (↑i : Int)) (RT.dflt RT.sym)).name (mpS sy i) = mpS sy (i + 1))))) (Nat.beq (3 : Nat) (3 : Nat) = true ∧ (!FErr.isErr (firstE (syE d c m sy) (List.length sy))) = true ∧ d = d ∧ c = c ∧ m = m ∧ dr = dr ∧ cr = cr ∧ sy = sy)) := by kernel_rfl
set_option maxHeartbeats 4000000 in
theorem lSymsB (d c m : List Int) (dr cr : List Rel) (sy : List Sm) {W : World} {R own0 : Nat → Prop} {ρ0 : Nat → Option Value} (hown : HownOk (env (G7 ++ rest) [(63, kwordB), (64, ksymbol), (65, krelocs)]) own0 ρ0) : LOk Tryd.prog (env (G7 ++ rest) [(63, kwordB), (64, ksymbol), (65, krelocs)]) (ctx ea has) (G7 ++ rest) W R own0 ρ0 (loopN (bodyOf Tryd.f49) 1) (LSymsB d c m dr cr sy) := by
 refine loop2_ok (J := fun i => firstE (syE d c m sy) i = .fine) (N := sy.length) (H := HSymsB d c m dr cr sy) (X := XSymsB d c m dr cr sy) (Y := YSymsB d c m dr cr sy) (env_ok (con := [(63, kwordB), (64, ksymbol), (65, krelocs)]) ⟨cwordB, csymbol, crelocs, trivial⟩) hown (ls := fun i => []) (fun i => noSums (by kernel_rfl)) (fun hm i hi hj => ?_) 0 (fun hm => by first | exact Nat.zero_le _ | omega) (fun hm => rfl)
 rw [bSymsB rest d c m dr cr sy i]
 delta RQ IT
 have hE2 : syE d c m sy i = _ := syE.eq_1 d c m sy i
 have hnp := symE_np d c m (sy.getD i RT.sym.dflt).name (sy.getD i RT.sym.dflt).in_ (sy.getD i RT.sym.dflt).value (sy.getD i RT.sym.dflt).global (mpS sy i)
 have hle := mpS_le sy (sy.getD i RT.sym.dflt).name i
 simp only [Int.toNat_natCast]
 generalize symE d c m (sy.getD i RT.sym.dflt).name (sy.getD i RT.sym.dflt).in_ (sy.getD i RT.sym.dflt).value (sy.getD i RT.sym.dflt).global (mpS sy i) = e at *
 obtain ⟨hm, hmc⟩ := hm
 refine ⟨fun h => ?_, fun h => ?_⟩
 ·have h := of_decide_eq_true h
  have hlt : i < sy.length := by omega
  refine ⟨by omega, fun _ => ⟨by omega, fun _ => ⟨fun h3 => ?_, fun h3 => ?_⟩⟩⟩
  ·have h3 : e.isErr = true := by simpa using h3
   obtain ⟨g1, g2⟩ := firstE_at hj (by rw [hE2]; exact h3) (by rw [hE2]; exact hnp) hlt
   rw [hE2] at g1
   exact ⟨by rw [g2]; rfl, g1, h3, hnp⟩
  ·have h3 : e.isErr = false := by simpa using h3
   refine ⟨hlt, firstE_fine hj (by rw [hE2]; exact h3), ?_⟩
   simp [mpS]; omega
 ·have h := of_decide_eq_false h
  have : i = sy.length := by omega
  rw [← this, hj]
  simp [FErr.isErr]
def validBE (d c m : List Int) (dr cr : List Rel) (sy : List Sm) : FErr :=
 if manyB d c dr cr sy = true then .bare 104 else if (!decide ((m.length : Int) = c.length)) = true then .bare 109
 else if (firstE (wdBE c m) c.length).isErr = true then firstE (wdBE c m) c.length
 else if (firstE (syE d c m sy) sy.length).isErr = true then firstE (syE d c m sy) sy.length
 else relocsE d c m dr cr sy
def kValidB : List SVal → Nat → Acc ORes := fun a n => match a with | [.agg [.ro .u32 d, .ro .u32 c, .ro .u8 m, .ro .rel dr, .ro .rel cr, .ro .sym sy], .func 50 []] => .ret ({ v := .err (validBE d c m dr cr sy) }) | _ => .fail "ValidB"
theorem argValidB (d c m : List Int) (dr cr : List Rel) (sy : List Sm) : (all (subL tAtN none' [] deep [.agg [.ro .u32 d, .ro .u32 c, .ro .u8 m, .ro .rel dr, .ro .rel cr, .ro .sym sy], .func 50 []] [.agg [.ro .u32 d, .ro .u32 c, .ro .u8 m, .ro .rel dr, .ro .rel cr, .ro .sym sy], .func 50 []])) = (
 d = d ∧ c = c ∧ m = m ∧ dr = dr ∧ cr = cr ∧ sy = sy) := by kernel_rfl
theorem runValidB (rest : List (Nat × SVal)) (d : List Int) (c : List Int) (m : List Int) (dr : List Rel) (cr : List Rel) (sy : List Sm) : (Tr.sat (plainQ (.err (validBE d c m dr cr sy))) (run (env (G7 ++ rest) [(63, kwordB), (64, ksymbol), (65, krelocs)]) [(6, LWordsB d c m dr cr sy), (14, LSymsB d c m dr cr sy)] (bodyOf Tryd.f49) (start [.agg [.ro .u32 d, .ro .u32 c, .ro .u8 m, .ro .rel dr, .ro .rel cr, .ro .sym sy], .func 50 []] 91) (ends (env (G7 ++ rest) [(63, kwordB), (64, ksymbol), (65, krelocs)]) Tryd.f49.results.toList))) = (
 IT (decide ((2048 : Int) < (↑(List.length d) : Int)) || decide ((2048 : Int) < (↑(List.length c) : Int)) || decide ((1024 : Int) < (↑(List.length dr) : Int)) || decide ((1024 : Int) < (↑(List.length cr) : Int)) || decide ((256 : Int) < (↑(List.length sy) : Int))) (FErr.bare (104 : Int) = validBE d c m dr cr sy) (IT (!decide ((↑(List.length m) : Int) = (↑(List.length c) : Int))) (FErr.bare (109 : Int) = validBE d c m dr cr sy) (RQ ((List.length c ≤ 1000000 ∧ List.length m = List.length c) ∧ (↑(List.length c) : Int) = (↑(List.length c) : Int) ∧ (0 : Int) = (↑(0 : Nat) : Int) ∧ d = d ∧ c = c ∧ m = m ∧ dr = dr ∧ cr = cr ∧ sy = sy) (IT (!FErr.isErr (firstE (wdBE c m) (List.length c))) (RQ ((List.length sy ≤ 1000000 ∧ List.length m = List.length c) ∧ sy = sy ∧ (↑(List.length sy) : Int) = (↑(List.length sy) : Int) ∧ (0 : Int) = (↑(0 : Nat) : Int) ∧ d = d ∧ c = c ∧ m = m ∧ dr = dr ∧ cr = cr ∧ sy = sy ∧ @List.nil (ByteArray × Int) = mpS sy (0 : Nat)) (IT (!FErr.isErr (firstE (syE d c m sy) (List.length sy))) (RQ (List.length dr ≤ 1000000 ∧ List.length cr ≤ 1000000 ∧ List.length c ≤ 1000000 ∧ List.length m = List.length c) (relocsE d c m dr cr sy = validBE d c m dr cr sy)) (firstE (syE d c m sy) (List.length sy) = validBE d c m dr cr sy))) (firstE (wdBE c m) (List.length c) = validBE d c m dr cr sy))))) := by kernel_rfl
set_option maxHeartbeats 4000000 in
theorem cValidB : Con ea has (G7 ++ rest) 49 kValidB := by
 refine plain_mkB Tryd.func49 91 (con := [(63, kwordB), (64, ksymbol), (65, krelocs)]) ⟨cwordB, csymbol, crelocs, trivial⟩ (fun hA hr hv => ?_) (by kernel_rfl) (by kernel_rfl) Tryd.ntmps49
 unfold kValidB at hr; split at hr
 ·rename_i d c m dr cr sy
  have := ret_ok hr; subst this
  refine ⟨_, [(6, LWordsB d c m dr cr sy), (14, LSymsB d c m dr cr sy)], rfl, rfl, .of (argValidB d c m dr cr sy) (by simp), rfl, (fun W R ρ0 own0 hown => hl2 (by kernel_rfl) (by kernel_rfl) (lWordsB d c m dr cr sy hown) (by kernel_rfl) (lSymsB d c m dr cr sy hown)), .of (runValidB rest d c m dr cr sy) ?_⟩
  delta RQ IT
  clear hr
  refine ⟨fun h => ?_, fun h => ⟨fun h2 => ?_, fun h2 => ?_⟩⟩
  ·rw [validBE, if_pos (show manyB d c dr cr sy = true from h)]
  ·rw [validBE, if_neg (show ¬ manyB d c dr cr sy = true by rw [show manyB d c dr cr sy = false from h]; simp), if_pos h2]
  ·have hv : validBE d c m dr cr sy = _ := validBE.eq_1 d c m dr cr sy
   rw [if_neg (show ¬ manyB d c dr cr sy = true by rw [show manyB d c dr cr sy = false from h]; simp), if_neg (by rw [h2]; simp)] at hv
   have hmc : m.length = c.length := by simp at h2; omega
   simp only [Bool.or_eq_false_iff, decide_eq_false_iff_not] at h
   refine ⟨by simp [hmc]; omega, fun _ => ⟨fun h3 => ⟨by simp [mpS, hmc]; omega, fun _ => ⟨fun h4 => ⟨by omega, fun _ => ?_⟩, fun h4 => ?_⟩⟩, fun h3 => ?_⟩⟩
   ·rw [if_neg (by simpa using h3), if_neg (by simpa using h4)] at hv; exact hv.symm
   ·rw [if_neg (by simpa using h3), if_pos (by simpa using h4)] at hv; exact hv.symm
   ·rw [if_pos (by simpa using h3)] at hv; exact hv.symm
 ·cases hr
def vBE (o : Ob) : FErr := validBE o.data o.code o.map o.drels o.crels o.syms
end
end Go.Proofs.YtacmmedhjebfjaaDoor
set_option linter.unusedVariables false
set_option linter.unusedSimpArgs false
namespace Go.Proofs.YtacmmedhjebfjaaDoor
open Go.RowKit Go.Sy Go.Fac
theorem gHas_gPut {α β : Type} [DecidableEq α] (k : α) (v : β) (k' : α) : ∀ m : List (α × β), gHas (gPut m k v) k' = (decide (k = k') || gHas m k')
 | [] => by simp [gPut, gHas]
 | (a, b) :: m => by
  unfold gPut
  by_cases h : a = k
  ·rw [if_pos h]; subst h
   by_cases h2 : a = k' <;> simp [gHas, h2]
  ·rw [if_neg h]
   have ih := gHas_gPut k v k' m
   by_cases h2 : a = k' <;> simp [gHas, h2, ih]
theorem gGet_gPut {α β : Type} [DecidableEq α] (d : β) (k : α) (v : β) (k' : α) : ∀ m : List (α × β), gGet d (gPut m k v) k' = if k = k' then v else gGet d m k'
 | [] => by simp [gPut, gGet]
 | (a, b) :: m => by
  unfold gPut
  by_cases h : a = k
  ·rw [if_pos h]; subst h
   by_cases h2 : a = k' <;> simp [gGet, h2]
  ·rw [if_neg h]
   have ih := gGet_gPut d k v k' m
   by_cases h2 : a = k'
   ·subst h2; simp [gGet, Ne.symm h]
   ·simp [gGet, h2, ih]
def glH (g : Glb) (k : ByteArray) : Bool := @gHas _ _ (FK.deq .str) g k
def glG (g : Glb) (k : ByteArray) : Int × Int := @gGet _ _ (FK.deq .str) (0, 0) g k
def glP (g : Glb) (k : ByteArray) (v : Int × Int) : Glb := @gPut _ _ (FK.deq .str) g k v
theorem glH_put (g : Glb) (k : ByteArray) (v : Int × Int) (k' : ByteArray) : glH (glP g k v) k' = true ↔ k = k' ∨ glH g k' = true := by
 have := @gHas_gPut _ _ (FK.deq .str) k v k' g
 unfold glH glP
 rw [this]; simp
theorem glG_put (g : Glb) (k : ByteArray) (v : Int × Int) (k' : ByteArray) : glG (glP g k v) k' = if k = k' then v else glG g k' := by
 have := @gGet_gPut _ _ (FK.deq .str) (0, 0) k v k' g
 unfold glG glP
 rw [this]
 by_cases h : k = k'
 ·rw [if_pos h, if_pos h]
 ·rw [if_neg h, if_neg h]
abbrev obN (l : List Ob) (o : Nat) : Ob := l.getD o RT.obj.dflt
def syO (l : List Ob) (o s : Nat) : Sm := (obN l o).syms.getD s RT.sym.dflt
theorem symAt_nat (l : List Ob) (o s : Nat) : symAt l o s = syO l o s := by unfold symAt syO; rfl
def expS (x : Sm) : Prop := x.global = true ∧ x.in_ ≠ 3
def expB (x : Sm) : Bool := x.global && !decide (x.in_ = 3)
theorem expB_iff {x : Sm} : expB x = true ↔ expS x := by unfold expB expS; simp
def nmStep (i : Int) (j : Nat) (s : Sm) (g : Glb) : FErr × Glb :=
 if expB s = false then (.fine, g) else if glH g s.name = true then (.placed 106 i, g) else (.fine, glP g s.name (i, j))
def nmS (i : Int) (sy : List Sm) (g : Glb) : Nat → FErr × Glb
 | 0 => (.fine, g)
 | j + 1 => if (nmS i sy g j).1.isErr = true then nmS i sy g j else nmStep i j (sy.getD j RT.sym.dflt) (nmS i sy g j).2
def nmO (l : List Ob) : Nat → FErr × Glb
 | 0 => (.fine, [])
 | i + 1 => if (nmO l i).1.isErr = true then nmO l i else if (vBE (obN l i)).isErr = true then (insE (vBE (obN l i)) i, (nmO l i).2) else nmS i (obN l i).syms (nmO l i).2 (obN l i).syms.length
theorem nmS_stay (i : Int) (sy : List Sm) (g : Glb) {j : Nat} (h : (nmS i sy g j).1.isErr = true) : ∀ n, j ≤ n → nmS i sy g n = nmS i sy g j
 | 0, hn => by rw [show j = 0 by omega]
 | n + 1, hn => by
  by_cases e : j = n + 1
  ·rw [e]
  ·have := nmS_stay i sy g h n (by omega)
   rw [nmS, this, if_pos h]
theorem nmO_stay (l : List Ob) {j : Nat} (h : (nmO l j).1.isErr = true) : ∀ n, j ≤ n → nmO l n = nmO l j
 | 0, hn => by rw [show j = 0 by omega]
 | n + 1, hn => by
  by_cases e : j = n + 1
  ·rw [e]
  ·have := nmO_stay l h n (by omega)
   rw [nmO, this, if_pos h]
theorem nmS_prev (i : Int) (sy : List Sm) (g : Glb) {j n : Nat} (h : (nmS i sy g n).1 = .fine) (hj : j ≤ n) : (nmS i sy g j).1 = .fine := by
 cases e : (nmS i sy g j).1.isErr with
 | false => exact fine_of e
 | true => rw [nmS_stay i sy g e n hj] at h; rw [h] at e; cases e
theorem nmO_prev (l : List Ob) {j n : Nat} (h : (nmO l n).1 = .fine) (hj : j ≤ n) : (nmO l j).1 = .fine := by
 cases e : (nmO l j).1.isErr with
 | false => exact fine_of e
 | true => rw [nmO_stay l e n hj] at h; rw [h] at e; cases e
structure NmI (l : List Ob) (i j : Nat) (g : Glb) : Prop where
 fnd : ∀ k, glH g k = true → ∃ o s : Nat, glG g k = ((o : Int), (s : Int)) ∧ (o < i ∨ o = i ∧ s < j) ∧ s < (obN l o).syms.length ∧ (syO l o s).name = k ∧ expS (syO l o s)
 all : ∀ o s : Nat, (o < i ∨ o = i ∧ s < j) → s < (obN l o).syms.length → expS (syO l o s) → glH g (syO l o s).name = true ∧ glG g (syO l o s).name = ((o : Int), (s : Int))
theorem nmS_inv {l : List Ob} {i : Nat} {g : Glb} (h0 : NmI l i 0 g) : ∀ j, j ≤ (obN l i).syms.length → (nmS i (obN l i).syms g j).1 = .fine → NmI l i j (nmS i (obN l i).syms g j).2
 | 0, _, _ => h0
 | j + 1, hj, hf => by
  have hp := nmS_prev i _ g hf (Nat.le_succ j)
  have ih := nmS_inv h0 j (by omega) hp
  have e : nmS i (obN l i).syms g (j + 1) = nmStep i j (syO l i j) (nmS i (obN l i).syms g j).2 := by
   rw [nmS, if_neg (by rw [hp]; simp [FErr.isErr])]; rfl
  rw [e] at hf ⊢
  generalize (nmS i (obN l i).syms g j).2 = g' at *
  unfold nmStep at hf ⊢
  by_cases hx : expB (syO l i j) = false
  ·rw [if_pos hx]
   refine ⟨fun k hk => ?_, fun o s hos hs hex => ?_⟩
   ·obtain ⟨o, s, h1, h2, h3⟩ := ih.fnd k hk
    exact ⟨o, s, h1, by omega, h3⟩
   ·by_cases e : o = i ∧ s = j
    ·obtain ⟨rfl, rfl⟩ := e
     rw [← expB_iff, hx] at hex; cases hex
    ·exact ih.all o s (by omega) hs hex
  ·rw [if_neg hx] at hf ⊢
   by_cases hh : glH g' (syO l i j).name = true
   ·rw [if_pos hh] at hf; cases hf
   ·rw [if_neg hh]
    have hx : expS (syO l i j) := expB_iff.1 (by simpa using hx)
    refine ⟨fun k hk => ?_, fun o s hos hs hex => ?_⟩
    ·show ∃ o s : Nat, glG (glP _ _ _) k = _ ∧ _
     rw [glG_put]
     by_cases e : (syO l i j).name = k
     ·exact ⟨i, j, by rw [if_pos e], by omega, by omega, e, hx⟩
     ·obtain ⟨o, s, h1, h2, h3⟩ := ih.fnd k (((glH_put _ _ _ _).1 hk).resolve_left e)
      exact ⟨o, s, by rw [if_neg e, h1], by omega, h3⟩
    ·show glH (glP _ _ _) _ = true ∧ glG (glP _ _ _) _ = _
     rw [glG_put, glH_put]
     by_cases e : o = i ∧ s = j
     ·obtain ⟨rfl, rfl⟩ := e
      exact ⟨.inl rfl, by rw [if_pos rfl]⟩
     ·obtain ⟨g1, g2⟩ := ih.all o s (by omega) hs hex
      have hne : ¬ (syO l i j).name = (syO l o s).name := fun e => by rw [e] at hh; exact hh g1
      exact ⟨.inr g1, by rw [if_neg hne, g2]⟩
theorem nmI_next {l : List Ob} {i : Nat} {g : Glb} (h : NmI l i (obN l i).syms.length g) : NmI l (i + 1) 0 g := by
 refine ⟨fun k hk => ?_, fun o s hos hs hex => h.all o s ?_ hs hex⟩
 ·obtain ⟨o, s, h1, h2, h3⟩ := h.fnd k hk
  exact ⟨o, s, h1, by omega, h3⟩
 ·by_cases e : o = i
  ·subst e; exact .inr ⟨rfl, hs⟩
  ·exact .inl (by omega)
theorem nmO_inv (l : List Ob) : ∀ i, (nmO l i).1 = .fine → NmI l i 0 (nmO l i).2 ∧ ∀ j, j < i → (vBE (obN l j)).isErr = false
 | 0, _ => ⟨⟨fun k hk => (by cases hk), fun o s hos _ _ => (by omega)⟩, fun j hj => by omega⟩
 | i + 1, hf => by
  have hp := nmO_prev l hf (Nat.le_succ i)
  obtain ⟨ih1, ih2⟩ := nmO_inv l i hp
  rw [nmO, if_neg (by rw [hp]; simp [FErr.isErr])] at hf ⊢
  by_cases hv : (vBE (obN l i)).isErr = true
  ·rw [if_pos hv] at hf
   revert hf hv
   cases vBE (obN l i) <;> simp [insE, FErr.isErr]
  ·rw [if_neg hv] at hf ⊢
   refine ⟨nmI_next (nmS_inv ih1 _ (Nat.le_refl _) hf), fun j hj => ?_⟩
   by_cases e : j = i
   ·subst e; simpa using hv
   ·exact ih2 j (by omega)
theorem validB_size {d c m : List Int} {dr cr : List Rel} {sy : List Sm} (h : (validBE d c m dr cr sy).isErr = false) : c.length ≤ 2048 ∧ m.length = c.length ∧ d.length ≤ 2048 ∧ dr.length ≤ 1024 ∧ cr.length ≤ 1024 ∧ sy.length ≤ 256 ∧
  (firstE (wdBE c m) c.length).isErr = false ∧ (firstE (syE d c m sy) sy.length).isErr = false ∧ (relocsE d c m dr cr sy).isErr = false := by
 unfold validBE at h
 split at h
 ·cases h
 ·rename_i h1
  split at h
  ·cases h
  ·rename_i h2
   split at h
   ·rename_i h3; rw [h] at h3; cases h3
   ·rename_i h3
    split at h
    ·rename_i h4; rw [h] at h4; cases h4
    ·rename_i h4
     have h1 : manyB d c dr cr sy = false := by simpa using h1
     unfold manyB at h1
     simp only [Bool.or_eq_false_iff, decide_eq_false_iff_not] at h1
     simp only [Bool.not_eq_true', decide_eq_false_iff_not, Decidable.not_not] at h2
     refine ⟨by omega, by omega, by omega, by omega, by omega, by omega, by simpa using h3, by simpa using h4, h⟩
structure VOb (o : Ob) : Prop where
 code : o.code.length ≤ 2048
 map : o.map.length = o.code.length
 data : o.data.length ≤ 2048
 drels : o.drels.length ≤ 1024
 crels : o.crels.length ≤ 1024
 syms : o.syms.length ≤ 256
 words : ∀ i, i < o.code.length → (wordBE o.code o.map i).isErr = false
 sym : ∀ i, i < o.syms.length → (syE o.data o.code o.map o.syms i).isErr = false
 dr : ∀ i, i < o.drels.length → (drE o.data o.drels o.syms i).isErr = false
 cr : ∀ i, i < o.crels.length → (crE o.code o.map o.crels o.syms i).isErr = false
 need : ∀ i, i < o.code.length → (needE o.code o.map o.crels i).isErr = false
theorem drE_np (d : List Int) (dr : List Rel) (sy : List Sm) (i : Nat) : (drE d dr sy i).isPlaced = false := by
 unfold drE; simp only; split
 ·rfl
 ·exact relocE_np
theorem needE_np (c m : List Int) (cr : List Rel) (i : Nat) : (needE c m cr i).isPlaced = false := by
 unfold needE; split <;> rfl
theorem vOb {o : Ob} (h : (vBE o).isErr = false) : VOb o := by
 obtain ⟨h1, h2, h3, h4, h5, h6, h7, h8, h9⟩ := validB_size h
 obtain ⟨r1, r2, r3⟩ := relocs_fine h9
 exact ⟨h1, h2, h3, h4, h5, h6, firstE_all (fun i => wordBE_np _ _ i) h7, firstE_all (fun i => symE_np _ _ _ _ _ _ _ _) h8, firstE_all (drE_np _ _ _) r1, firstE_all (fun i => crE_np _ _ _ _ i) r2, firstE_all (needE_np _ _ _) r3⟩
theorem VOb.crel {o : Ob} (v : VOb o) {j : Nat} (hj : j < o.crels.length) :
  ∀ r, r = o.crels.getD j RT.rel.dflt → 0 ≤ r.at_ ∧ r.at_ < o.code.length ∧ 0 ≤ r.sym ∧ r.sym < o.syms.length ∧ (r.kind = 1 ∨ r.kind = 2) ∧ -65536 ≤ r.add ∧ r.add ≤ 65536 ∧ shapeB o.code o.map o.syms r.at_ r.kind r.sym r.add = true ∧ lastR o.crels j < r.at_ := by
 intro r hr
 have := v.cr j hj
 unfold crE at this
 simp only at this
 rw [← hr] at this
 split at this
 ·cases this
 ·rename_i hs
  have e := this
  unfold relocE at e
  split at e
  ·cases e
  ·rename_i hb
   unfold relocB at hb
   simp only [Bool.or_eq_true, decide_eq_true_eq, not_or] at hb
   rw [this] at hs
   simp only [Bool.not_false, Bool.true_and, Bool.not_eq_true', Bool.not_eq_false] at hs
   refine ⟨by omega, by omega, by omega, by omega, by omega, by omega, by omega, by simpa using hs, by omega⟩
theorem VOb.drel {o : Ob} (v : VOb o) {j : Nat} (hj : j < o.drels.length) :
  ∀ r, r = o.drels.getD j RT.rel.dflt → 0 ≤ r.at_ ∧ r.at_ < o.data.length ∧ 0 ≤ r.sym ∧ r.sym < o.syms.length ∧ -65536 ≤ r.add ∧ r.add ≤ 65536 ∧ lastR o.drels j < r.at_ := by
 intro r hr
 have := v.dr j hj
 unfold drE at this
 simp only at this
 rw [← hr] at this
 split at this
 ·cases this
 ·rename_i hs
  have e := this
  unfold relocE at e
  split at e
  ·cases e
  ·rename_i hb
   unfold relocB at hb
   simp only [Bool.or_eq_true, decide_eq_true_eq, not_or] at hb
   exact ⟨by omega, by omega, by omega, by omega, by omega, by omega, by omega⟩
theorem VOb.symb {o : Ob} (v : VOb o) {j : Nat} (hj : j < o.syms.length) : symFine o.data o.code o.map (o.syms.getD j RT.sym.dflt).in_ (o.syms.getD j RT.sym.dflt).value (o.syms.getD j RT.sym.dflt).global = true ∧ symOk (o.syms.getD j RT.sym.dflt).name = true := by
 have := v.sym j hj
 unfold syE symE at this
 split at this
 ·cases this
 ·rename_i hk
  split at this
  ·cases this
  ·split at this
   ·rename_i hf; exact ⟨hf, by simpa using hk⟩
   ·cases this
theorem VOb.symc {o : Ob} (v : VOb o) {j : Nat} (hj : j < o.syms.length) (h2 : (o.syms.getD j RT.sym.dflt).in_ = 2) : 0 ≤ (o.syms.getD j RT.sym.dflt).value ∧ (o.syms.getD j RT.sym.dflt).value < o.code.length ∧ o.map.getD (o.syms.getD j RT.sym.dflt).value.toNat 0 = 1 := by
 have := (v.symb hj).1
 unfold symFine at this
 rw [if_neg (by omega), if_pos h2] at this
 simp only [Bool.and_eq_true, decide_eq_true_eq] at this
 exact ⟨this.1.1, this.1.2, this.2⟩
theorem VOb.symd {o : Ob} (v : VOb o) {j : Nat} (hj : j < o.syms.length) (h2 : (o.syms.getD j RT.sym.dflt).in_ = 1) : 0 ≤ (o.syms.getD j RT.sym.dflt).value ∧ (o.syms.getD j RT.sym.dflt).value ≤ o.data.length := by
 have := (v.symb hj).1
 unfold symFine at this
 rw [if_pos h2] at this
 simp only [Bool.and_eq_true, Bool.or_eq_true, decide_eq_true_eq] at this
 omega
theorem VOb.symi {o : Ob} (v : VOb o) {j : Nat} (hj : j < o.syms.length) : (o.syms.getD j RT.sym.dflt).in_ = 1 ∨ (o.syms.getD j RT.sym.dflt).in_ = 2 ∨ (o.syms.getD j RT.sym.dflt).in_ = 3 := by
 have := (v.symb hj).1
 unfold symFine at this
 by_cases h1 : (o.syms.getD j RT.sym.dflt).in_ = 1
 ·exact .inl h1
 ·by_cases h2 : (o.syms.getD j RT.sym.dflt).in_ = 2
  ·exact .inr (.inl h2)
  ·by_cases h3 : (o.syms.getD j RT.sym.dflt).in_ = 3
   ·exact .inr (.inr h3)
   ·rw [if_neg h1, if_neg h2, if_neg h3] at this; cases this
def noneB (l : List Ob) (g : Glb) (i j : Nat) : Bool := decide ((syO l i j).in_ = 3) && !glH g (syO l i j).name
def noneO (l : List Ob) (g : Glb) (i : Nat) : Bool := decide (idxM (noneB l g i) (obN l i).syms.length ≠ (obN l i).syms.length)
theorem idxM_all {p : Nat → Bool} : ∀ {n : Nat}, idxM p n = n → ∀ i, i < n → p i = false
 | 0, _, i, hi => by omega
 | n + 1, h, i, hi => by
  have hle := idxM_le p n
  unfold idxM at h
  by_cases h1 : idxM p n < n
  ·rw [if_pos h1] at h; omega
  ·rw [if_neg h1] at h
   have h2 : idxM p n = n := by omega
   by_cases h3 : p n = true
   ·rw [if_pos h3] at h; omega
   ·by_cases e : i = n
    ·subst e; simpa using h3
    ·exact idxM_all h2 i (by omega)
theorem idxM_is {p : Nat → Bool} {n : Nat} (h : idxM p n ≠ n) : idxM p n < n ∧ p (idxM p n) = true ∧ ∀ i, i < idxM p n → p i = false := by
 induction n with
 | zero => exact absurd rfl h
 | succ n ih =>
  have hle := idxM_le p n
  unfold idxM at h ⊢
  by_cases h1 : idxM p n < n
  ·rw [if_pos h1]
   have := ih (by omega)
   exact ⟨by omega, this.2⟩
  ·have h2 : idxM p n = n := by omega
   rw [if_neg h1] at h ⊢
   by_cases h3 : p n = true
   ·rw [if_pos h3]; exact ⟨by omega, h3, fun i hi => idxM_all h2 i hi⟩
   ·rw [if_neg h3] at h; omega
structure NmG (l : List Ob) (g : Glb) : Prop where
 few : l.length ≤ 16
 val : ∀ i, i < l.length → VOb (obN l i)
 inv : NmI l l.length 0 g
 abs : ∀ i, i < l.length → ∀ j, j < (obN l i).syms.length → noneB l g i j = false
theorem NmG.real {l : List Ob} {g : Glb} (G : NmG l g) {i : Nat} (hi : i < l.length) {s : Int} (h0 : 0 ≤ s) (hs : s < (obN l i).syms.length) :
  ∃ o x : Nat, realM l g i s = ((o : Int), (x : Int)) ∧ o < l.length ∧ x < (obN l o).syms.length ∧ (syO l o x).in_ ≠ 3 ∧ (syO l o x).name = (syO l i s.toNat).name := by
 obtain ⟨s', rfl⟩ : ∃ n : Nat, s = n := ⟨s.toNat, by omega⟩
 have e : symAt l i s' = syO l i s' := symAt_nat l i s'
 unfold realM
 rw [e]
 by_cases h3 : (syO l i s').in_ = 3
 ·rw [if_pos h3]
  have := G.abs i hi s' (by omega)
  unfold noneB at this
  rw [decide_eq_true h3] at this
  have hh : glH g (syO l i s').name = true := by simpa using this
  obtain ⟨o, x, g1, g2, g3, g4, g5⟩ := G.inv.fnd _ hh
  exact ⟨o, x, g1, by omega, g3, g5.2, g4⟩
 ·rw [if_neg h3]
  exact ⟨i, s', rfl, hi, by omega, h3, rfl⟩
def jumpsB (c m : List Int) (a k : Int) : Bool := if k = 2 then true else insB c m (a - 1) && decide (m.getD a.toNat 0 = 0) && isaJumps (insI c m (a - 1)).op
abbrev relN (l : List Ob) (i j : Nat) : Rel := (obN l i).crels.getD j RT.rel.dflt
def toB (l : List Ob) (g : Glb) (i j : Nat) : Bool :=
 jumpsB (obN l i).code (obN l i).map (relN l i j).at_ (relN l i j).kind && decide ((symAt l (realM l g i (relN l i j).sym).1 (realM l g i (relN l i j).sym).2).in_ = 1)
def toO (l : List Ob) (g : Glb) (i : Nat) : Bool := decide (idxM (toB l g i) (obN l i).crels.length ≠ (obN l i).crels.length)
def mainT : ByteArray := ⟨#[109, 97, 105, 110]⟩
def noMain (l : List Ob) (g : Glb) : Bool := !glH g mainT || !decide ((symAt l (glG g mainT).1 (glG g mainT).2).in_ = 2)
def nmG (l : List Ob) : Glb := (nmO l l.length).2
def namesE (l : List Ob) : FErr :=
 if (nmO l l.length).1.isErr = true then (nmO l l.length).1
 else if idxM (noneO l (nmG l)) l.length ≠ l.length then .placed 107 (idxM (noneO l (nmG l)) l.length)
 else if idxM (toO l (nmG l)) l.length ≠ l.length then .placed 102 (idxM (toO l (nmG l)) l.length)
 else if noMain l (nmG l) = true then .bare 107 else .fine
theorem nmG_ok {l : List Ob} (hl : l.length ≤ 16) (h : (nmO l l.length).1 = .fine) (h2 : idxM (noneO l (nmG l)) l.length = l.length) : NmG l (nmG l) := by
 obtain ⟨g1, g2⟩ := nmO_inv l _ h
 refine ⟨hl, fun i hi => vOb (g2 i hi), g1, fun i hi j hj => ?_⟩
 have := idxM_all h2 i hi
 unfold noneO at this
 rw [decide_eq_false_iff_not, Decidable.not_not] at this
 exact idxM_all this j hj
end Go.Proofs.YtacmmedhjebfjaaDoor
set_option linter.unusedVariables false
set_option linter.unusedSimpArgs false
namespace Go.Proofs.YtacmmedhjebfjaaDoor
open Go.RowKit Go.Sy
section
variable {ea : Ear} {has : Int → Prop} {gl : List (Nat × SVal)}
abbrev itT : RT := .flat (.int .i64) [.int .i64, .bool]
def itS (l : List itT.ty) (i : Nat) : Int := (l.getD i itT.dflt).1
def itG (l : List itT.ty) (i : Nat) : Int := (l.getD i itT.dflt).2.1
def itB (l : List itT.ty) (i : Nat) : Bool := (l.getD i itT.dflt).2.2
def ItOk (l : List itT.ty) : Prop := l.length ≤ 4096 ∧ ∀ i, 0 ≤ itS l i ∧ itS l i ≤ 2048
def plS (l : List itT.ty) (g : List Bool) : Nat → Int
 | 0 => 0
 | i + 1 => plS l g i + itS l i + if g.getD i false = true then 1 else 0
def plL (l : List itT.ty) (g : List Bool) : Nat → List Int
 | 0 => []
 | i + 1 => plL l g i ++ [plS l g i]
theorem plL_len (l : List itT.ty) (g : List Bool) : ∀ i, (plL l g i).length = i
 | 0 => rfl
 | i + 1 => by rw [plL, List.length_append, plL_len l g i]; rfl
theorem plS_le {l : List itT.ty} (h : ItOk l) (g : List Bool) : ∀ i, 0 ≤ plS l g i ∧ plS l g i ≤ 2049 * i
 | 0 => ⟨Int.le_refl _, by simp [plS]⟩
 | i + 1 => by
  have := plS_le h g i
  have h2 := h.2 i
  unfold plS
  split <;> omega
theorem plL_get (l : List itT.ty) (g : List Bool) : ∀ n i, i < n → (plL l g n).getD i 0 = plS l g i
 | 0, i, h => by omega
 | n + 1, i, h => by
  rw [plL]
  by_cases e : i < n
  ·rw [← plL_get l g n i e, List.getD_eq_getElem?_getD, List.getD_eq_getElem?_getD, List.getElem?_append_left (by rw [plL_len]; exact e)]
  ·have : i = n := by omega
   subst this
   rw [List.getD_eq_getElem?_getD, List.getElem?_append_right (by rw [plL_len]; omega), plL_len]; simp
def plA (l : List itT.ty) (g : List Bool) : List Int := plL l g (l.length + 1)
def HPl (l : List itT.ty) (g : List Bool) (i : Nat) : SState := { fr := [(0, .ro itT l), (1, .ro .bool g), (5, .int .i64 (.full (plS l g i))), (6, .own 0), (14, .ro itT l), (15, .int .i64 (.full l.length)), (16, .int .i64 (.sym i 0 1000000))], hp := [(0, some (.recs .i64 (plL l g i)))], next := 1, sz := 40 }
def XPl (l : List itT.ty) (g : List Bool) : SState := { fr := [(5, .int .i64 (.full (plS l g l.length))), (6, .own 0)], hp := [(0, some (.recs .i64 (plL l g l.length)))], next := 1, sz := 40 }
def LPl (l : List itT.ty) (g : List Bool) : LSum := ⟨HPl l g 0, fun k => k (.exit 0) (XPl l g), ItOk l ∧ g.length = l.length⟩
theorem bPl (gl : List (Nat × SVal)) (l : List itT.ty) (g : List Bool) (i : Nat) : (Tr.sat (rnd1 (env gl []) (fun _ => True) (l.length) (HPl l g) 0 (XPl l g) i) (run (env gl []) [] (loopN (bodyOf Tryd.f56) 0) (HPl l g i) .leaf)) = (
 IT (decide ((↑i : Int) < (↑(List.length l) : Int))) (RQ (0 ≤ (↑i : Int) ∧ (↑i : Int) < (↑(List.length l) : Int)) (RQ (List.length (plL l g i) + List.length [plS l g i] ≤ 137438953472) (RQ (0 ≤ (↑i : Int) ∧ (↑i : Int) < (↑(List.length g) : Int)) (IT (List.getD g (Int.toNat (↑i : Int)) (RT.dflt RT.bool)) (i < List.length l ∧ True ∧ l = l ∧ g = g ∧ IntKind.wrap IntKind.i64 (IntKind.wrap IntKind.i64 (plS l g i + (List.getD l (Int.toNat (↑i : Int)) (RT.dflt (RT.flat (FK.int IntKind.i64) [FK.int IntKind.i64, FK.bool]))).fst) + 1) = plS l g (i + 1) ∧ l = l ∧ (↑(List.length l) : Int) = (↑(List.length l) : Int) ∧ (↑i : Int) + 1 = (↑(i + 1) : Int) ∧ (0 ≤ (↑(i + 1) : Int) ∧ (↑(i + 1) : Int) ≤ 1000000) ∧ plL l g i ++ [plS l g i] = plL l g (i + 1)) (i < List.length l ∧ True ∧ l = l ∧ g = g ∧ IntKind.wrap IntKind.i64 (plS l g i + (List.getD l (Int.toNat (↑i : Int)) (RT.dflt (RT.flat (FK.int IntKind.i64) [FK.int IntKind.i64, FK.bool]))).fst) = plS l g (i + 1) ∧ l = l ∧ (↑(List.length l) : Int) = (↑(List.length l) : Int) ∧ (↑i : Int) + 1 = (↑(i + 1) : Int) ∧ (0 ≤ (↑(i + 1) : Int) ∧ (↑(i + 1) : Int) ≤ 1000000) ∧ plL l g i ++ [plS l g i] = plL l g (i + 1)))))) (Nat.beq (0 : Nat) (0 : Nat) = true ∧ plS l g i = plS l g (List.length l) ∧ plL l g i = plL l g (List.length l))) := by kernel_rfl
set_option maxHeartbeats 4000000 in
theorem lPl (l : List itT.ty) (g : List Bool) {W : World} {R own0 : Nat → Prop} {ρ0 : Nat → Option Value} (hown : HownOk (env gl []) own0 ρ0) : LOk Tryd.prog (env gl []) (ctx ea has) gl W R own0 ρ0 (loopN (bodyOf Tryd.f56) 0) (LPl l g) := by
 refine loop1_ok (J := fun _ => True) (N := l.length) (H := HPl l g) (X := XPl l g) (env_ok (con := []) trivial) hown (ls := fun i => []) (fun i => noSums (by kernel_rfl)) (fun hm i hi hj => ?_) 0 (fun hm => by first | exact Nat.zero_le _ | omega) (fun hm => trivial)
 rw [bPl gl l g i]
 delta RQ IT
 obtain ⟨hm, hg⟩ := hm
 have hb := plS_le hm g i
 have hs := hm.2 i
 have hn := hm.1
 have hlen := plL_len l g i
 have db : RT.bool.dflt = false := rfl
 simp only [Int.toNat_natCast, db, hlen, List.length_singleton]
 refine ⟨fun h => ?_, fun h => ?_⟩
 ·have h := of_decide_eq_true h
  refine ⟨by omega, fun _ => ⟨by omega, fun _ => ⟨by omega, fun _ => ⟨fun h2 => ?_, fun h2 => ?_⟩⟩⟩⟩
  ·have e : IntKind.i64.wrap (IntKind.i64.wrap (plS l g i + itS l i) + 1) = plS l g (i + 1) := by
    have w1 : IntKind.i64.wrap (plS l g i + itS l i) = plS l g i + itS l i := by rw [IntKind.wrap_i64]; omega
    rw [w1, IntKind.wrap_i64, plS, if_pos h2]; omega
   exact ⟨by omega, trivial, trivial, trivial, e, trivial, trivial, by omega, by omega, rfl⟩
  ·have e : IntKind.i64.wrap (plS l g i + itS l i) = plS l g (i + 1) := by
    rw [IntKind.wrap_i64, plS, if_neg (by rw [h2]; simp)]; omega
   exact ⟨by omega, trivial, trivial, trivial, e, trivial, trivial, by omega, by omega, rfl⟩
 ·have h := of_decide_eq_false h
  have : i = l.length := by omega
  subst this; exact ⟨rfl, rfl, rfl⟩
def kPlaces : List SVal → Nat → Acc ORes := fun a n => match a with | [.ro (.flat (.int .i64) [.int .i64, .bool]) l, .ro .bool g] => .ret (newR n (.own 0) ([(0, .recs .i64 (plA l g))]) 1 (some (ItOk l ∧ g.length = l.length))) | _ => .fail "Places"
theorem argPlaces (l : List itT.ty) (g : List Bool) : (all (subL tAtN none' [] deep [.ro (.flat (.int .i64) [.int .i64, .bool]) l, .ro .bool g] [.ro itT l, .ro .bool g])) = (
 l = l ∧ g = g) := by kernel_rfl
theorem runPlaces (gl : List (Nat × SVal)) (l : List itT.ty) (g : List Bool) : (Tr.sat (newQ (env gl []) (.own 0) ([(0, .recs .i64 (plA l g))]) 1) (run (env gl []) [(6, LPl l g)] (bodyOf Tryd.f56) (start [.ro itT l, .ro .bool g] 40) (ends (env gl []) Tryd.f56.results.toList))) = (
 IT (!decide ((↑(List.length l) : Int) = (↑(List.length g) : Int))) (@List.nil (RT.ty RT.i64) = plA l g) (RQ ((ItOk l ∧ List.length g = List.length l) ∧ l = l ∧ g = g ∧ (0 : Int) = plS l g (0 : Nat) ∧ l = l ∧ (↑(List.length l) : Int) = (↑(List.length l) : Int) ∧ (0 : Int) = (↑(0 : Nat) : Int) ∧ @List.nil (RT.ty RT.i64) = plL l g (0 : Nat)) (RQ (List.length (plL l g (List.length l)) + List.length [plS l g (List.length l)] ≤ 137438953472) (plL l g (List.length l) ++ [plS l g (List.length l)] = plA l g)))) := by kernel_rfl
set_option maxHeartbeats 4000000 in
theorem cPlaces : Con ea has gl 56 kPlaces := by
 refine new_mkB Tryd.func56 40 (con := []) trivial (fun hA hr hv => ?_) (by kernel_rfl) (by kernel_rfl) Tryd.ntmps56
 unfold kPlaces at hr; split at hr
 ·rename_i l g
  have := ret_ok hr; subst this
  replace hv := hv _ rfl
  refine ⟨_, [(6, LPl l g)], _, _, _, ⟨rfl, rfl, rfl⟩, .of (argPlaces l g) (by simp), rfl, rfl, (fun W R ρ0 own0 hown => hl1 (by kernel_rfl) (by kernel_rfl) (lPl l g hown)), .of (runPlaces gl l g) ?_⟩
  delta RQ IT
  clear hr
  obtain ⟨h1, h2⟩ := hv
  have hlen := plL_len l g l.length
  have hn := h1.1
  refine ⟨fun h => by simp [h2] at h, fun h => ⟨⟨⟨h1, h2⟩, rfl, rfl, rfl, rfl, rfl, rfl, rfl⟩, fun _ => ⟨by rw [hlen, List.length_singleton]; omega, fun _ => rfl⟩⟩⟩
 ·cases hr
abbrev kPlacesB := borN [.ro itT, .ro .bool] kPlaces
theorem cPlacesB : Con ea has gl 56 kPlacesB := borN_ok cPlaces _
def fitsB (l : List itT.ty) (p : List Int) (i : Int) : Bool :=
 decide (-128 ≤ p.getD (itG l i.toNat).toNat 0 - p.getD i.toNat 0) && decide (p.getD (itG l i.toNat).toNat 0 - p.getD i.toNat 0 ≤ 127)
theorem fits_w (p : List Int) (a b : Nat) (h : ∀ j, 0 ≤ p.getD j 0 ∧ p.getD j 0 ≤ 100000000) : IntKind.i64.wrap (p.getD a 0 - p.getD b 0) = p.getD a 0 - p.getD b 0 := by
 have h1 := h a; have h2 := h b; rw [IntKind.wrap_i64]; omega
def klfits : List SVal → Nat → Acc ORes := fun a n => match a with | [.ro (.flat (.int .i64) [.int .i64, .bool]) l, .ro .i64 p, .int .i64 i] => .ret ({ v := .bool (.sym (fitsB l p i.val)), vc := some (0 ≤ i.val ∧ i.val < l.length ∧ p.length = l.length + 1 ∧ 0 ≤ itG l i.val.toNat ∧ itG l i.val.toNat ≤ l.length ∧ ∀ j, 0 ≤ p.getD j 0 ∧ p.getD j 0 ≤ 100000000) }) | _ => .fail "lfits"
theorem arglfits (l : List itT.ty) (p : List Int) (i : SI) : (all (subL tAtN none' [] deep [.ro (.flat (.int .i64) [.int .i64, .bool]) l, .ro .i64 p, .int .i64 i] [.ro itT l, .ro .i64 p, .int .i64 (.full i.val)])) = (
 l = l ∧ p = p ∧ SI.val i = SI.val i) := by kernel_rfl
theorem runlfits (gl : List (Nat × SVal)) (l : List itT.ty) (p : List Int) (i : Int) : (Tr.sat (plainQ (.bool (.sym (fitsB l p i)))) (run (env gl []) [] (bodyOf Tryd.f72) (start [.ro itT l, .ro .i64 p, .int .i64 (.full i)] 27) (ends (env gl []) Tryd.f72.results.toList))) = (
 RQ (0 ≤ i ∧ i < (↑(List.length l) : Int)) (RQ (0 ≤ (List.getD l (Int.toNat i) (RT.dflt (RT.flat (FK.int IntKind.i64) [FK.int IntKind.i64, FK.bool]))).snd.fst ∧ (List.getD l (Int.toNat i) (RT.dflt (RT.flat (FK.int IntKind.i64) [FK.int IntKind.i64, FK.bool]))).snd.fst < (↑(List.length p) : Int)) (RQ (0 ≤ i ∧ i < (↑(List.length p) : Int)) ((decide ((-128 : Int) ≤ IntKind.wrap IntKind.i64 (List.getD p (Int.toNat (List.getD l (Int.toNat i) (RT.dflt (RT.flat (FK.int IntKind.i64) [FK.int IntKind.i64, FK.bool]))).snd.fst) (RT.dflt RT.i64) - List.getD p (Int.toNat i) (RT.dflt RT.i64))) && decide (IntKind.wrap IntKind.i64 (List.getD p (Int.toNat (List.getD l (Int.toNat i) (RT.dflt (RT.flat (FK.int IntKind.i64) [FK.int IntKind.i64, FK.bool]))).snd.fst) (RT.dflt RT.i64) - List.getD p (Int.toNat i) (RT.dflt RT.i64)) ≤ 127)) = fitsB l p i)))) := by kernel_rfl
set_option maxHeartbeats 4000000 in
theorem clfits : Con ea has gl 72 klfits := by
 refine plain_mkB Tryd.func72 27 (con := []) trivial (fun hA hr hv => ?_) (by kernel_rfl) (by kernel_rfl) Tryd.ntmps72
 unfold klfits at hr; split at hr
 ·rename_i l p i
  have := ret_ok hr; subst this
  replace hv := hv _ rfl
  refine ⟨_, [], rfl, rfl, .of (arglfits l p i) (by simp), rfl, (fun W R ρ0 own0 hown => noSums (by kernel_rfl)), .of (runlfits gl l p i.val) ?_⟩
  delta RQ
  clear hr
  generalize i.val = i at *
  obtain ⟨v1, v2, v3, v4, v5, v6⟩ := hv
  have w1 := fits_w p (itG l i.toNat).toNat i.toNat v6
  have b1 : 0 ≤ itG l i.toNat ∧ itG l i.toNat < (p.length : Int) := ⟨v4, by omega⟩
  have e : (decide (-128 ≤ IntKind.i64.wrap (p.getD (itG l i.toNat).toNat 0 - p.getD i.toNat 0)) && decide (IntKind.i64.wrap (p.getD (itG l i.toNat).toNat 0 - p.getD i.toNat 0) ≤ 127)) = fitsB l p i := by rw [w1]; rfl
  exact ⟨⟨v1, v2⟩, fun _ => ⟨b1, fun _ => ⟨⟨v1, by omega⟩, fun _ => e⟩⟩⟩
 ·cases hr
def badZ (l : List itT.ty) (i : Nat) : Bool := decide (itS l i < 0) || decide (2048 < itS l i)
def badT (l : List itT.ty) (i : Nat) : Bool := itB l i && (decide (itG l i < 0) || decide ((l.length : Int) < itG l i))
def kDo1 : List SVal → Nat → Acc ORes := fun a n => match a with | [.agg [.int .i64 s, .int .i64 t, .bool b]] => .ret ({ v := .bool (.sym (decide (s.val < 0) || decide (2048 < s.val))) }) | _ => .fail "Do1"
theorem argDo1 (s t : SI) (b : SB) : (all (subL tAtN none' [] deep [.agg [.int .i64 s, .int .i64 t, .bool b]] [.agg [.int .i64 (.full s.val), .int .i64 (.full t.val), .bool (.sym b.val)]])) = (
 SI.val s = SI.val s ∧ SI.val t = SI.val t ∧ SB.val b = SB.val b) := by kernel_rfl
theorem runDo1 (gl : List (Nat × SVal)) (s : Int) (t : Int) (b : Bool) : (Tr.sat (plainQ (.bool (.sym (decide (s < 0) || decide (2048 < s))))) (run (env gl []) [] (bodyOf Tryd.f71) (start [.agg [.int .i64 (.full s), .int .i64 (.full t), .bool (.sym b)]] 11) (ends (env gl []) Tryd.f71.results.toList))) = (
 (decide (s < (0 : Int)) || decide ((2048 : Int) < s)) = (decide (s < (0 : Int)) || decide ((2048 : Int) < s))) := by kernel_rfl
set_option maxHeartbeats 4000000 in
theorem cDo1 : Con ea has gl 71 kDo1 := by
 refine plain_mkB Tryd.func71 11 (con := []) trivial (fun hA hr hv => ?_) (by kernel_rfl) (by kernel_rfl) Tryd.ntmps71
 unfold kDo1 at hr; split at hr
 ·rename_i s t b
  have := ret_ok hr; subst this
  refine ⟨_, [], rfl, rfl, .of (argDo1 s t b) (by simp), rfl, (fun W R ρ0 own0 hown => noSums (by kernel_rfl)), .of (runDo1 gl s.val t.val b.val) ?_⟩
  clear hr
  rfl
 ·cases hr
def kmay1 : List SVal → Nat → Acc ORes := fun a n => match a with | [.agg [.int .i64 s, .int .i64 t, .bool b], .rop [.ro (.flat (.int .i64) [.int .i64, .bool]) l]] => .ret ({ v := .bool (.sym (b.val && (decide (t.val < 0) || decide ((l.length : Int) < t.val)))) }) | _ => .fail "may1"
theorem argmay1 (s t : SI) (b : SB) (l : List itT.ty) : (all (subL tAtN none' [] deep [.agg [.int .i64 s, .int .i64 t, .bool b], .rop [.ro (.flat (.int .i64) [.int .i64, .bool]) l]] [.agg [.int .i64 (.full s.val), .int .i64 (.full t.val), .bool (.sym b.val)], .rop [.ro itT l]])) = (
 SI.val s = SI.val s ∧ SI.val t = SI.val t ∧ SB.val b = SB.val b ∧ l = l) := by kernel_rfl
theorem runmay1 (gl : List (Nat × SVal)) (s : Int) (t : Int) (b : Bool) (l : List itT.ty) : (Tr.sat (plainQ (.bool (.sym (b && (decide (t < 0) || decide ((l.length : Int) < t)))))) (run (env gl []) [] (bodyOf Tryd.f94) (start [.agg [.int .i64 (.full s), .int .i64 (.full t), .bool (.sym b)], .rop [.ro itT l]] 18) (ends (env gl []) Tryd.f94.results.toList))) = (
 (b && (decide (t < (0 : Int)) || decide ((↑(List.length l) : Int) < t))) = (b && (decide (t < (0 : Int)) || decide ((↑(List.length l) : Int) < t)))) := by kernel_rfl
set_option maxHeartbeats 4000000 in
theorem cmay1 : Con ea has gl 94 kmay1 := by
 refine plain_mkB Tryd.func94 18 (con := []) trivial (fun hA hr hv => ?_) (by kernel_rfl) (by kernel_rfl) Tryd.ntmps94
 unfold kmay1 at hr; split at hr
 ·rename_i s t b l
  have := ret_ok hr; subst this
  refine ⟨_, [], rfl, rfl, .of (argmay1 s t b l) (by simp), rfl, (fun W R ρ0 own0 hown => noSums (by kernel_rfl)), .of (runmay1 gl s.val t.val b.val l) ?_⟩
  clear hr
  rfl
 ·cases hr
def fndI (p : Nat → Bool) (n : Nat) : Int := if idxM p n = n then -1 else idxM p n
def HIdxZ (l : List itT.ty) (i : Nat) : SState := { fr := [(0, .ro itT l), (1, .func 71 []), (7, .int .i64 (.full l.length)), (8, .int .i64 (.sym i 0 1000000))], hp := [], next := 0, sz := 19 }
def XIdxZ (l : List itT.ty) : SState := { fr := [], hp := [], next := 0, sz := 19 }
def YIdxZ (l : List itT.ty) : SState := { fr := [(4, .int .i64 (.full (idxM (badZ l) l.length)))], hp := [], next := 0, sz := 19 }
def LIdxZ (l : List itT.ty) : LSum := ⟨HIdxZ l 0, fun k => .ite (decide (idxM (badZ l) l.length = l.length)) (k (.exit 0) (XIdxZ l)) (k .ret (YIdxZ l)), l.length ≤ 1000000⟩
theorem bIdxZ (gl : List (Nat × SVal)) (l : List itT.ty) (i : Nat) : (Tr.sat (rnd2 (env gl [(71, kDo1)]) (fun i => idxM (badZ l) i = i) (l.length) (HIdxZ l) 0 (decide (idxM (badZ l) l.length = l.length)) (XIdxZ l) (YIdxZ l) i) (run (env gl [(71, kDo1)]) [] (loopN (bodyOf Tryd.f95) 0) (HIdxZ l i) .leaf)) = (
 IT (decide ((↑i : Int) < (↑(List.length l) : Int))) (RQ (0 ≤ (↑i : Int) ∧ (↑i : Int) < (↑(List.length l) : Int)) (IT (decide ((List.getD l (Int.toNat (↑i : Int)) (RT.dflt (RT.flat (FK.int IntKind.i64) [FK.int IntKind.i64, FK.bool]))).fst < 0) || decide ((2048 : Int) < (List.getD l (Int.toNat (↑i : Int)) (RT.dflt (RT.flat (FK.int IntKind.i64) [FK.int IntKind.i64, FK.bool]))).fst)) (decide (idxM (badZ l) (List.length l) = List.length l) = false ∧ (↑i : Int) = (↑(idxM (badZ l) (List.length l)) : Int)) (i < List.length l ∧ idxM (badZ l) (i + 1) = i + 1 ∧ l = l ∧ (↑(List.length l) : Int) = (↑(List.length l) : Int) ∧ (↑i : Int) + 1 = (↑(i + 1) : Int) ∧ 0 ≤ (↑(i + 1) : Int) ∧ (↑(i + 1) : Int) ≤ 1000000))) (Nat.beq (0 : Nat) (0 : Nat) = true ∧ decide (idxM (badZ l) (List.length l) = List.length l) = true ∧ True)) := by kernel_rfl
set_option maxHeartbeats 4000000 in
theorem lIdxZ (l : List itT.ty) {W : World} {R own0 : Nat → Prop} {ρ0 : Nat → Option Value} (hown : HownOk (env gl [(71, kDo1)]) own0 ρ0) : LOk Tryd.prog (env gl [(71, kDo1)]) (ctx ea has) gl W R own0 ρ0 (loopN (bodyOf Tryd.f95) 0) (LIdxZ l) := by
 refine loop2_ok (J := fun i => idxM (badZ l) i = i) (N := l.length) (H := HIdxZ l) (X := XIdxZ l) (Y := YIdxZ l) (env_ok (con := [(71, kDo1)]) ⟨cDo1, trivial⟩) hown (ls := fun i => []) (fun i => noSums (by kernel_rfl)) (fun hm i hi hj => ?_) 0 (fun hm => by first | exact Nat.zero_le _ | omega) (fun hm => rfl)
 rw [bIdxZ gl l i]
 delta RQ IT
 simp only [Int.toNat_natCast]
 refine ⟨fun h => ?_, fun h => ?_⟩
 ·have h := of_decide_eq_true h
  have hlt : i < l.length := by omega
  refine ⟨by omega, fun _ => ⟨fun h3 => ?_, fun h3 => ?_⟩⟩
  ·have e := idxM_hit (n := l.length) hj (show badZ l i = true from h3) hlt
   rw [e]
   exact ⟨by simp; omega, rfl⟩
  ·exact ⟨hlt, idxM_step hj h3, trivial, trivial, by omega, by omega, by omega⟩
 ·have h := of_decide_eq_false h
  have : i = l.length := by omega
  exact ⟨rfl, by rw [← this]; simp [hj], trivial⟩
def kIndexZ : List SVal → Nat → Acc ORes := fun a n => match a with | [.ro (.flat (.int .i64) [.int .i64, .bool]) l, .func 71 []] => .ret ({ v := .int .i64 (.full (fndI (badZ l) l.length)), vc := some (l.length ≤ 1000000) }) | _ => .fail "IndexZ"
theorem argIndexZ (l : List itT.ty) : (all (subL tAtN none' [] deep [.ro (.flat (.int .i64) [.int .i64, .bool]) l, .func 71 []] [.ro itT l, .func 71 []])) = (
 l = l) := by kernel_rfl
theorem runIndexZ (gl : List (Nat × SVal)) (l : List itT.ty) : (Tr.sat (plainQ (.int .i64 (.full (fndI (badZ l) l.length)))) (run (env gl [(71, kDo1)]) [(2, LIdxZ l)] (bodyOf Tryd.f95) (start [.ro itT l, .func 71 []] 19) (ends (env gl [(71, kDo1)]) Tryd.f95.results.toList))) = (
 RQ (List.length l ≤ 1000000 ∧ l = l ∧ (↑(List.length l) : Int) = (↑(List.length l) : Int) ∧ (0 : Int) = (↑(0 : Nat) : Int)) (IT (decide (idxM (badZ l) (List.length l) = List.length l)) ((-1 : Int) = fndI (badZ l) (List.length l)) ((↑(idxM (badZ l) (List.length l)) : Int) = fndI (badZ l) (List.length l)))) := by kernel_rfl
set_option maxHeartbeats 4000000 in
theorem cIndexZ : Con ea has gl 95 kIndexZ := by
 refine plain_mkB Tryd.func95 19 (con := [(71, kDo1)]) ⟨cDo1, trivial⟩ (fun hA hr hv => ?_) (by kernel_rfl) (by kernel_rfl) Tryd.ntmps95
 unfold kIndexZ at hr; split at hr
 ·rename_i l
  have := ret_ok hr; subst this
  replace hv := hv _ rfl
  refine ⟨_, [(2, LIdxZ l)], rfl, rfl, .of (argIndexZ l) (by simp), rfl, (fun W R ρ0 own0 hown => hl1 (by kernel_rfl) (by kernel_rfl) (lIdxZ l hown)), .of (runIndexZ gl l) ?_⟩
  delta RQ IT
  clear hr
  refine ⟨⟨hv, rfl, rfl, rfl⟩, fun _ => ⟨fun h => ?_, fun h => ?_⟩⟩
  ·have h := of_decide_eq_true h
   unfold fndI; rw [if_pos h]
  ·have h := of_decide_eq_false h
   unfold fndI; rw [if_neg h]
 ·cases hr
def kContZ : List SVal → Nat → Acc ORes := fun a n => match a with | [.ro (.flat (.int .i64) [.int .i64, .bool]) l, .func 71 []] => .ret ({ v := .bool (.sym (decide (0 ≤ fndI (badZ l) l.length))), vc := some (l.length ≤ 1000000) }) | _ => .fail "ContZ"
theorem argContZ (l : List itT.ty) : (all (subL tAtN none' [] deep [.ro (.flat (.int .i64) [.int .i64, .bool]) l, .func 71 []] [.ro itT l, .func 71 []])) = (
 l = l) := by kernel_rfl
theorem runContZ (gl : List (Nat × SVal)) (l : List itT.ty) : (Tr.sat (plainQ (.bool (.sym (decide (0 ≤ fndI (badZ l) l.length))))) (run (env gl [(95, kIndexZ)]) [] (bodyOf Tryd.f70) (start [.ro itT l, .func 71 []] 9) (ends (env gl [(95, kIndexZ)]) Tryd.f70.results.toList))) = (
 RQ (List.length l ≤ 1000000) (decide (0 ≤ fndI (badZ l) (List.length l)) = decide (0 ≤ fndI (badZ l) (List.length l)))) := by kernel_rfl
set_option maxHeartbeats 4000000 in
theorem cContZ : Con ea has gl 70 kContZ := by
 refine plain_mkB Tryd.func70 9 (con := [(95, kIndexZ)]) ⟨cIndexZ, trivial⟩ (fun hA hr hv => ?_) (by kernel_rfl) (by kernel_rfl) Tryd.ntmps70
 unfold kContZ at hr; split at hr
 ·rename_i l
  have := ret_ok hr; subst this
  replace hv := hv _ rfl
  refine ⟨_, [], rfl, rfl, .of (argContZ l) (by simp), rfl, (fun W R ρ0 own0 hown => noSums (by kernel_rfl)), .of (runContZ gl l) ?_⟩
  delta RQ
  clear hr
  exact ⟨hv, fun _ => rfl⟩
 ·cases hr
def HIdxT (l : List itT.ty) (l' : List itT.ty) (i : Nat) : SState := { fr := [(0, .ro itT l), (1, .func 94 [.rop [.ro itT l']]), (7, .int .i64 (.full l.length)), (8, .int .i64 (.sym i 0 1000000))], hp := [], next := 0, sz := 19 }
def XIdxT (l : List itT.ty) (l' : List itT.ty) : SState := { fr := [], hp := [], next := 0, sz := 19 }
def YIdxT (l : List itT.ty) (l' : List itT.ty) : SState := { fr := [(4, .int .i64 (.full (idxM (badT l) l.length)))], hp := [], next := 0, sz := 19 }
def LIdxT (l : List itT.ty) (l' : List itT.ty) : LSum := ⟨HIdxT l l' 0, fun k => .ite (decide (idxM (badT l) l.length = l.length)) (k (.exit 0) (XIdxT l l')) (k .ret (YIdxT l l')), l.length ≤ 1000000 ∧ l' = l⟩
theorem bIdxT (gl : List (Nat × SVal)) (l : List itT.ty) (l' : List itT.ty) (i : Nat) : (Tr.sat (rnd2 (env gl [(94, kmay1)]) (fun i => idxM (badT l) i = i) (l.length) (HIdxT l l') 0 (decide (idxM (badT l) l.length = l.length)) (XIdxT l l') (YIdxT l l') i) (run (env gl [(94, kmay1)]) [] (loopN (bodyOf Tryd.f95) 0) (HIdxT l l' i) .leaf)) = (
 IT (decide ((↑i : Int) < (↑(List.length l) : Int))) (RQ (0 ≤ (↑i : Int) ∧ (↑i : Int) < (↑(List.length l) : Int)) (IT ((List.getD l (Int.toNat (↑i : Int)) (RT.dflt (RT.flat (FK.int IntKind.i64) [FK.int IntKind.i64, FK.bool]))).snd.snd && (decide ((List.getD l (Int.toNat (↑i : Int)) (RT.dflt (RT.flat (FK.int IntKind.i64) [FK.int IntKind.i64, FK.bool]))).snd.fst < 0) || decide ((↑(List.length l') : Int) < (List.getD l (Int.toNat (↑i : Int)) (RT.dflt (RT.flat (FK.int IntKind.i64) [FK.int IntKind.i64, FK.bool]))).snd.fst))) (decide (idxM (badT l) (List.length l) = List.length l) = false ∧ (↑i : Int) = (↑(idxM (badT l) (List.length l)) : Int)) (i < List.length l ∧ idxM (badT l) (i + 1) = i + 1 ∧ l = l ∧ l' = l' ∧ (↑(List.length l) : Int) = (↑(List.length l) : Int) ∧ (↑i : Int) + 1 = (↑(i + 1) : Int) ∧ 0 ≤ (↑(i + 1) : Int) ∧ (↑(i + 1) : Int) ≤ 1000000))) (Nat.beq (0 : Nat) (0 : Nat) = true ∧ decide (idxM (badT l) (List.length l) = List.length l) = true ∧ True)) := by kernel_rfl
set_option maxHeartbeats 4000000 in
theorem lIdxT (l : List itT.ty) (l' : List itT.ty) {W : World} {R own0 : Nat → Prop} {ρ0 : Nat → Option Value} (hown : HownOk (env gl [(94, kmay1)]) own0 ρ0) : LOk Tryd.prog (env gl [(94, kmay1)]) (ctx ea has) gl W R own0 ρ0 (loopN (bodyOf Tryd.f95) 0) (LIdxT l l') := by
 refine loop2_ok (J := fun i => idxM (badT l) i = i) (N := l.length) (H := HIdxT l l') (X := XIdxT l l') (Y := YIdxT l l') (env_ok (con := [(94, kmay1)]) ⟨cmay1, trivial⟩) hown (ls := fun i => []) (fun i => noSums (by kernel_rfl)) (fun hm i hi hj => ?_) 0 (fun hm => by first | exact Nat.zero_le _ | omega) (fun hm => rfl)
 rw [bIdxT gl l l' i]
 delta RQ IT
 have e := hm.2.symm; replace hm := hm.1; subst e
 simp only [Int.toNat_natCast]
 refine ⟨fun h => ?_, fun h => ?_⟩
 ·have h := of_decide_eq_true h
  have hlt : i < l.length := by omega
  refine ⟨by omega, fun _ => ⟨fun h3 => ?_, fun h3 => ?_⟩⟩
  ·have e := idxM_hit (n := l.length) hj (show badT l i = true from h3) hlt
   rw [e]
   exact ⟨by simp; omega, rfl⟩
  ·exact ⟨hlt, idxM_step hj h3, trivial, trivial, trivial, by omega, by omega, by omega⟩
 ·have h := of_decide_eq_false h
  have : i = l.length := by omega
  exact ⟨rfl, by rw [← this]; simp [hj], trivial⟩
def kIndexT : List SVal → Nat → Acc ORes := fun a n => match a with | [.ro (.flat (.int .i64) [.int .i64, .bool]) l, .func 94 [.rop [.ro (.flat (.int .i64) [.int .i64, .bool]) l']]] => .ret ({ v := .int .i64 (.full (fndI (badT l) l.length)), vc := some (l.length ≤ 1000000 ∧ l' = l) }) | _ => .fail "IndexT"
theorem argIndexT (l : List itT.ty) (l' : List itT.ty) : (all (subL tAtN none' [] deep [.ro (.flat (.int .i64) [.int .i64, .bool]) l, .func 94 [.rop [.ro (.flat (.int .i64) [.int .i64, .bool]) l']]] [.ro itT l, .func 94 [.rop [.ro itT l']]])) = (
 l = l ∧ l' = l') := by kernel_rfl
theorem runIndexT (gl : List (Nat × SVal)) (l : List itT.ty) (l' : List itT.ty) : (Tr.sat (plainQ (.int .i64 (.full (fndI (badT l) l.length)))) (run (env gl [(94, kmay1)]) [(2, LIdxT l l')] (bodyOf Tryd.f95) (start [.ro itT l, .func 94 [.rop [.ro itT l']]] 19) (ends (env gl [(94, kmay1)]) Tryd.f95.results.toList))) = (
 RQ ((List.length l ≤ 1000000 ∧ l' = l) ∧ l = l ∧ l' = l' ∧ (↑(List.length l) : Int) = (↑(List.length l) : Int) ∧ (0 : Int) = (↑(0 : Nat) : Int)) (IT (decide (idxM (badT l) (List.length l) = List.length l)) ((-1 : Int) = fndI (badT l) (List.length l)) ((↑(idxM (badT l) (List.length l)) : Int) = fndI (badT l) (List.length l)))) := by kernel_rfl
set_option maxHeartbeats 4000000 in
theorem cIndexT : Con ea has gl 95 kIndexT := by
 refine plain_mkB Tryd.func95 19 (con := [(94, kmay1)]) ⟨cmay1, trivial⟩ (fun hA hr hv => ?_) (by kernel_rfl) (by kernel_rfl) Tryd.ntmps95
 unfold kIndexT at hr; split at hr
 ·rename_i l l'
  have := ret_ok hr; subst this
  replace hv := hv _ rfl
  refine ⟨_, [(2, LIdxT l l')], rfl, rfl, .of (argIndexT l l') (by simp), rfl, (fun W R ρ0 own0 hown => hl1 (by kernel_rfl) (by kernel_rfl) (lIdxT l l' hown)), .of (runIndexT gl l l') ?_⟩
  delta RQ IT
  clear hr
  refine ⟨⟨hv, rfl, rfl, rfl, rfl⟩, fun _ => ⟨fun h => ?_, fun h => ?_⟩⟩
  ·have h := of_decide_eq_true h
   unfold fndI; rw [if_pos h]
  ·have h := of_decide_eq_false h
   unfold fndI; rw [if_neg h]
 ·cases hr
def kContT : List SVal → Nat → Acc ORes := fun a n => match a with | [.ro (.flat (.int .i64) [.int .i64, .bool]) l, .func 94 [.rop [.ro (.flat (.int .i64) [.int .i64, .bool]) l']]] => .ret ({ v := .bool (.sym (decide (0 ≤ fndI (badT l) l.length))), vc := some (l.length ≤ 1000000 ∧ l' = l) }) | _ => .fail "ContT"
theorem argContT (l : List itT.ty) (l' : List itT.ty) : (all (subL tAtN none' [] deep [.ro (.flat (.int .i64) [.int .i64, .bool]) l, .func 94 [.rop [.ro (.flat (.int .i64) [.int .i64, .bool]) l']]] [.ro itT l, .func 94 [.rop [.ro itT l']]])) = (
 l = l ∧ l' = l') := by kernel_rfl
theorem runContT (gl : List (Nat × SVal)) (l : List itT.ty) (l' : List itT.ty) : (Tr.sat (plainQ (.bool (.sym (decide (0 ≤ fndI (badT l) l.length))))) (run (env gl [(95, kIndexT)]) [] (bodyOf Tryd.f70) (start [.ro itT l, .func 94 [.rop [.ro itT l']]] 9) (ends (env gl [(95, kIndexT)]) Tryd.f70.results.toList))) = (
 RQ (List.length l ≤ 1000000 ∧ l' = l) (decide (0 ≤ fndI (badT l) (List.length l)) = decide (0 ≤ fndI (badT l) (List.length l)))) := by kernel_rfl
set_option maxHeartbeats 4000000 in
theorem cContT : Con ea has gl 70 kContT := by
 refine plain_mkB Tryd.func70 9 (con := [(95, kIndexT)]) ⟨cIndexT, trivial⟩ (fun hA hr hv => ?_) (by kernel_rfl) (by kernel_rfl) Tryd.ntmps70
 unfold kContT at hr; split at hr
 ·rename_i l l'
  have := ret_ok hr; subst this
  replace hv := hv _ rfl
  refine ⟨_, [], rfl, rfl, .of (argContT l l') (by simp), rfl, (fun W R ρ0 own0 hown => noSums (by kernel_rfl)), .of (runContT gl l l') ?_⟩
  delta RQ
  clear hr
  exact ⟨hv, fun _ => rfl⟩
 ·cases hr
def kmay : List SVal → Nat → Acc ORes := fun a n => match a with | [.ro (.flat (.int .i64) [.int .i64, .bool]) l] => .ret ({ v := .bool (.sym (!decide (0 ≤ fndI (badT l) l.length))), vc := some (l.length ≤ 1000000) }) | _ => .fail "may"
theorem argmay (l : List itT.ty) : (all (subL tAtN none' [] deep [.ro (.flat (.int .i64) [.int .i64, .bool]) l] [.ro itT l])) = (
 l = l) := by kernel_rfl
theorem runmay (gl : List (Nat × SVal)) (l : List itT.ty) : (Tr.sat (plainQ (.bool (.sym (!decide (0 ≤ fndI (badT l) l.length))))) (run (env gl [(70, kContT)]) [(1000000, cutL { fr := [(0, .ro itT l), (1, .rop [.ro itT l])], hp := [], next := 0, sz := 7 })] (bodyOf Tryd.f69) (start [.ro itT l] 7) (ends (env gl [(70, kContT)]) Tryd.f69.results.toList))) = (
 RQ (l = l ∧ l = l) (RQ (List.length l ≤ 1000000 ∧ l = l) ((!decide (0 ≤ fndI (badT l) (List.length l))) = !decide (0 ≤ fndI (badT l) (List.length l))))) := by kernel_rfl
set_option maxHeartbeats 4000000 in
theorem cmay : Con ea has gl 69 kmay := by
 refine plain_mkB Tryd.func69 7 (con := [(70, kContT)]) ⟨cContT, trivial⟩ (fun hA hr hv => ?_) (by kernel_rfl) (by kernel_rfl) Tryd.ntmps69
 unfold kmay at hr; split at hr
 ·rename_i l
  have := ret_ok hr; subst this
  replace hv := hv _ rfl
  refine ⟨_, [(1000000, cutL { fr := [(0, .ro itT l), (1, .rop [.ro itT l])], hp := [], next := 0, sz := 7 })], rfl, rfl, .of (argmay l) (by simp), rfl, (fun W R ρ0 own0 hown => noSums (by kernel_rfl)), .of (runmay gl l) ?_⟩
  delta RQ
  clear hr
  exact ⟨⟨rfl, rfl⟩, fun _ => ⟨⟨hv, rfl⟩, fun _ => rfl⟩⟩
 ·cases hr
end
end Go.Proofs.YtacmmedhjebfjaaDoor
set_option linter.unusedVariables false
set_option linter.unusedSimpArgs false
namespace Go.Proofs.YtacmmedhjebfjaaDoor
open Go.RowKit Go.Sy
def goesL (l : List itT.ty) (g : List Bool) (i : Nat) : Bool := (itB l i && !g.getD i false) && !fitsB l (plA l g) i
def rndU (l : List itT.ty) (g : List Bool) : Nat → List Bool
 | 0 => g
 | i + 1 => if goesL l g i = true then (rndU l g i).set i true else rndU l g i
def moreU (l : List itT.ty) (g : List Bool) : Nat → Bool
 | 0 => false
 | i + 1 => if goesL l g i = true then true else moreU l g i
theorem rndU_len (l : List itT.ty) (g : List Bool) : ∀ i, (rndU l g i).length = g.length
 | 0 => rfl
 | i + 1 => by unfold rndU; split <;> simp [rndU_len l g i]
theorem rndU_get (l : List itT.ty) (g : List Bool) (j : Nat) : ∀ i, i ≤ j → (rndU l g i).getD j false = g.getD j false
 | 0, _ => rfl
 | i + 1, h => by
  have := rndU_get l g j i (by omega)
  unfold rndU; split
  ·rw [← this, List.getD_eq_getElem?_getD, List.getElem?_set_ne (by omega), List.getD_eq_getElem?_getD]
  ·exact this
theorem rndU_at (l : List itT.ty) (g : List Bool) (hg : g.length = l.length) (j : Nat) (hj : j < l.length) : ∀ i, j < i → (rndU l g i).getD j false = (g.getD j false || goesL l g j)
 | 0, h => by omega
 | i + 1, h => by
  by_cases e : i = j
  ·subst e
   have h1 := rndU_get l g i i (Nat.le_refl _)
   unfold rndU
   by_cases hgo : goesL l g i = true
   ·rw [if_pos hgo, hgo, List.getD_eq_getElem?_getD, List.getElem?_set_self (by rw [rndU_len]; omega)]; simp
   ·rw [if_neg hgo, h1]; simp [hgo]
  ·have := rndU_at l g hg j hj i (by omega)
   unfold rndU; split
   ·rw [← this, List.getD_eq_getElem?_getD, List.getElem?_set_ne e, List.getD_eq_getElem?_getD]
   ·exact this
theorem moreU_no (l : List itT.ty) (g : List Bool) : ∀ i, moreU l g i = false → (∀ j, j < i → goesL l g j = false) ∧ rndU l g i = g
 | 0, _ => ⟨fun j hj => by omega, rfl⟩
 | i + 1, h => by
  unfold moreU at h
  split at h
  ·cases h
  ·rename_i hn
   obtain ⟨h1, h2⟩ := moreU_no l g i h
   refine ⟨fun j hj => ?_, by unfold rndU; rw [if_neg hn]; exact h2⟩
   by_cases e : j = i
   ·subst e; simpa using hn
   ·exact h1 j (by omega)
def cntL (g : List Bool) : Nat := g.countP id
theorem cnt_set : ∀ (g : List Bool) (i : Nat), i < g.length → g.getD i false = false → cntL (g.set i true) = cntL g + 1
 | [], i, h, _ => by simp at h
 | b :: g, 0, h, hb => by simp at hb; subst hb; simp [cntL]
 | b :: g, i + 1, h, hb => by
  have := cnt_set g i (by simpa using h) (by simpa using hb)
  unfold cntL at this ⊢
  simp only [List.set_cons_succ, List.countP_cons, this]; omega
theorem cnt_rnd (l : List itT.ty) (g : List Bool) (hg : g.length = l.length) : ∀ i, i ≤ l.length → cntL g + (if moreU l g i = true then 1 else 0) ≤ cntL (rndU l g i)
 | 0, _ => by simp [moreU, rndU]
 | i + 1, h => by
  have ih := cnt_rnd l g hg i (by omega)
  unfold moreU rndU
  by_cases hgo : goesL l g i = true
  ·rw [if_pos hgo, if_pos hgo]
   have h1 := rndU_get l g i i (Nat.le_refl _)
   have h2 : g.getD i false = false := by unfold goesL at hgo; simp only [Bool.and_eq_true, Bool.not_eq_true'] at hgo; exact hgo.1.2
   rw [cnt_set _ i (by rw [rndU_len]; omega) (by rw [h1, h2])]
   simp; omega
  ·rw [if_neg hgo, if_neg hgo]; exact ih
def rlxN (l : List itT.ty) : Nat → List Bool
 | 0 => List.replicate l.length false
 | k + 1 => rndU l (rlxN l k) l.length
def rlx (l : List itT.ty) : List Bool := rlxN l (l.length + 1)
theorem rlxN_len (l : List itT.ty) : ∀ k, (rlxN l k).length = l.length
 | 0 => by simp [rlxN]
 | k + 1 => by rw [rlxN, rndU_len, rlxN_len l k]
def chg (l : List itT.ty) (k : Nat) : Prop := ∀ j, j < k → moreU l (rlxN l j) l.length = true
theorem chg_cnt (l : List itT.ty) : ∀ k, chg l k → k ≤ cntL (rlxN l k)
 | 0, _ => Nat.zero_le _
 | k + 1, h => by
  have h1 := chg_cnt l k fun j hj => h j (by omega)
  have h2 := cnt_rnd l (rlxN l k) (rlxN_len l k) l.length (Nat.le_refl _)
  rw [h k (Nat.lt_succ_self _)] at h2
  simp only [if_true] at h2
  rw [rlxN]; omega
theorem chg_le (l : List itT.ty) {k : Nat} (h : chg l k) : k ≤ l.length := by
 have h1 := chg_cnt l k h
 have h2 : cntL (rlxN l k) ≤ (rlxN l k).length := List.countP_le_length
 rw [rlxN_len] at h2; omega
theorem rlx_stay (l : List itT.ty) {k : Nat} (h : moreU l (rlxN l k) l.length = false) : ∀ m, k ≤ m → rlxN l m = rlxN l k
 | 0, hm => by have : k = 0 := by omega
               subst this; rfl
 | m + 1, hm => by
  by_cases e : k = m + 1
  ·subst e; rfl
  ·have := rlx_stay l h m (by omega)
   rw [rlxN, this]
   exact (moreU_no l _ _ h).2
theorem rlx_end (l : List itT.ty) {k : Nat} (hk : k ≤ l.length) (h : moreU l (rlxN l k) l.length = false) : rlxN l (k + 1) = rlx l := by
 rw [rlx_stay l h (k + 1) (by omega), rlx, rlx_stay l h (l.length + 1) (by omega)]
theorem rlx_len (l : List itT.ty) : (rlx l).length = l.length := rlxN_len l _
def TgOk (l : List itT.ty) : Prop := ∀ i, itB l i = true → 0 ≤ itG l i ∧ itG l i ≤ l.length
theorem plL_bd {l : List itT.ty} (h : ItOk l) (g : List Bool) : ∀ n, n ≤ 4097 → ∀ j, 0 ≤ (plL l g n).getD j 0 ∧ (plL l g n).getD j 0 ≤ 100000000
 | n, hn, j => by
  by_cases e : j < n
  ·rw [plL_get l g n j e]
   have := plS_le h g j
   omega
  ·have e : (plL l g n).getD j 0 = 0 := by rw [List.getD_eq_getElem?_getD, List.getElem?_eq_none (by rw [plL_len]; omega)]; rfl
   rw [e]; omega
theorem plA_le {l : List itT.ty} (h : ItOk l) (g : List Bool) : ∀ j, 0 ≤ (plA l g).getD j 0 ∧ (plA l g).getD j 0 ≤ 100000000 := plL_bd h g _ (by have := h.1; omega)
theorem fnd_none {p : Nat → Bool} {n : Nat} (h : ∀ i, i < n → p i = false) : fndI p n = -1 := by
 have : ∀ k, k ≤ n → idxM p k = k := fun k => by
  induction k with
  | zero => intro _; rfl
  | succ k ih => intro hk; exact idxM_step (ih (by omega)) (h k (by omega))
 unfold fndI; rw [if_pos (this n (Nat.le_refl _))]
section
variable {ea : Ear} {has : Int → Prop} {gl : List (Nat × SVal)}
def HRlI (l : List itT.ty) (g : List Bool) (rr : Nat) (i : Nat) : SState := { fr := [(0, .ro itT l), (5, .own 0), (6, .int .i64 (.sym rr 0 1000000)), (7, .ro .i64 (plA l g)), (8, .bool (.sym (moreU l g i))), (31, .ro itT l), (32, .int .i64 (.full l.length)), (33, .int .i64 (.sym i 0 1000000))], hp := [(0, some (.recs .bool (rndU l g i)))], next := 1, sz := 62 }
def XRlI (l : List itT.ty) (g : List Bool) (rr : Nat) : SState := { fr := [(0, .ro itT l), (5, .own 0), (6, .int .i64 (.sym rr 0 1000000)), (8, .bool (.sym (moreU l g l.length)))], hp := [(0, some (.recs .bool (rndU l g l.length)))], next := 1, sz := 62 }
def LRlI (l : List itT.ty) (g : List Bool) (rr : Nat) : LSum := ⟨HRlI l g rr 0, fun k => k (.exit 2) (XRlI l g rr), ItOk l ∧ TgOk l ∧ g.length = l.length ∧ rr ≤ 1000000⟩
theorem bRlI (gl : List (Nat × SVal)) (l : List itT.ty) (g : List Bool) (rr : Nat) (i : Nat) : (Tr.sat (rnd1 (env gl [(72, klfits), (56, kPlacesB), (69, kmay), (70, kContZ)]) (fun _ => True) (l.length) (HRlI l g rr) 2 (XRlI l g rr) i) (run (env gl [(72, klfits), (56, kPlacesB), (69, kmay), (70, kContZ)]) [] (loopN (loopN (bodyOf Tryd.f55) 0) 0) (HRlI l g rr i) .leaf)) = (
 IT (decide ((↑i : Int) < (↑(List.length l) : Int))) (RQ (0 ≤ (↑i : Int) ∧ (↑i : Int) < (↑(List.length l) : Int)) (RQ ((List.getD l (Int.toNat (↑i : Int)) (RT.dflt (RT.flat (FK.int IntKind.i64) [FK.int IntKind.i64, FK.bool]))).snd.snd = true → 0 ≤ (↑i : Int) ∧ (↑i : Int) < (↑(List.length (rndU l g i)) : Int)) (RQ (((List.getD l (Int.toNat (↑i : Int)) (RT.dflt (RT.flat (FK.int IntKind.i64) [FK.int IntKind.i64, FK.bool]))).snd.snd && !List.getD (rndU l g i) (Int.toNat (↑i : Int)) (RT.dflt RT.bool)) = true → 0 ≤ (↑i : Int) ∧ (↑i : Int) < (↑(List.length l) : Int) ∧ List.length (plA l g) = List.length l + 1 ∧ 0 ≤ itG l (Int.toNat (↑i : Int)) ∧ itG l (Int.toNat (↑i : Int)) ≤ (↑(List.length l) : Int) ∧ ∀ (j : Nat), (0 : RT.ty RT.i64) ≤ List.getD (plA l g) j (0 : RT.ty RT.i64) ∧ List.getD (plA l g) j (0 : RT.ty RT.i64) ≤ (100000000 : RT.ty RT.i64)) (IT ((List.getD l (Int.toNat (↑i : Int)) (RT.dflt (RT.flat (FK.int IntKind.i64) [FK.int IntKind.i64, FK.bool]))).snd.snd && !List.getD (rndU l g i) (Int.toNat (↑i : Int)) (RT.dflt RT.bool) && !fitsB l (plA l g) (↑i : Int)) (RQ (0 ≤ (↑i : Int) ∧ (↑i : Int) < (↑(List.length (rndU l g i)) : Int)) (i < List.length l ∧ True ∧ l = l ∧ (↑rr : Int) = (↑rr : Int) ∧ plA l g = plA l g ∧ true = moreU l g (i + 1) ∧ l = l ∧ (↑(List.length l) : Int) = (↑(List.length l) : Int) ∧ (↑i : Int) + 1 = (↑(i + 1) : Int) ∧ (0 ≤ (↑(i + 1) : Int) ∧ (↑(i + 1) : Int) ≤ 1000000) ∧ List.set (rndU l g i) (Int.toNat (↑i : Int)) true = rndU l g (i + 1))) (i < List.length l ∧ True ∧ l = l ∧ (↑rr : Int) = (↑rr : Int) ∧ plA l g = plA l g ∧ moreU l g i = moreU l g (i + 1) ∧ l = l ∧ (↑(List.length l) : Int) = (↑(List.length l) : Int) ∧ (↑i : Int) + 1 = (↑(i + 1) : Int) ∧ (0 ≤ (↑(i + 1) : Int) ∧ (↑(i + 1) : Int) ≤ 1000000) ∧ rndU l g i = rndU l g (i + 1)))))) (Nat.beq (2 : Nat) (2 : Nat) = true ∧ l = l ∧ (↑rr : Int) = (↑rr : Int) ∧ moreU l g i = moreU l g (List.length l) ∧ rndU l g i = rndU l g (List.length l))) := by kernel_rfl
set_option maxHeartbeats 4000000 in
theorem lRlI (l : List itT.ty) (g : List Bool) (rr : Nat) {W : World} {R own0 : Nat → Prop} {ρ0 : Nat → Option Value} (hown : HownOk (env gl [(72, klfits), (56, kPlacesB), (69, kmay), (70, kContZ)]) own0 ρ0) : LOk Tryd.prog (env gl [(72, klfits), (56, kPlacesB), (69, kmay), (70, kContZ)]) (ctx ea has) gl W R own0 ρ0 (loopN (loopN (bodyOf Tryd.f55) 0) 0) (LRlI l g rr) := by
 refine loop1_ok (J := fun _ => True) (N := l.length) (H := HRlI l g rr) (X := XRlI l g rr) (env_ok (con := [(72, klfits), (56, kPlacesB), (69, kmay), (70, kContZ)]) ⟨clfits, cPlacesB, cmay, cContZ, trivial⟩) hown (ls := fun i => []) (fun i => noSums (by kernel_rfl)) (fun hm i hi hj => ?_) 0 (fun hm => by first | exact Nat.zero_le _ | omega) (fun hm => trivial)
 rw [bRlI gl l g rr i]
 delta RQ IT
 obtain ⟨h1, h2, h3, h4⟩ := hm
 have hlen := rndU_len l g i
 have hn := h1.1
 have db : RT.bool.dflt = false := rfl
 have hp : (plA l g).length = l.length + 1 := plL_len l g _
 have hget := rndU_get l g i i (Nat.le_refl _)
 simp only [Int.toNat_natCast, db, hlen, hget, hp]
 refine ⟨fun h => ?_, fun h => ?_⟩
 ·have h := of_decide_eq_true h
  refine ⟨by omega, fun _ => ⟨fun _ => by omega, fun _ => ⟨fun g1 => ?_, fun _ => ⟨fun g1 => ⟨by omega, fun _ => ?_⟩, fun g1 => ?_⟩⟩⟩⟩
  ·rw [Bool.and_eq_true] at g1
   have q := h2 i g1.1
   exact ⟨by omega, by omega, trivial, q.1, q.2, plA_le h1 g⟩
  ·have e : goesL l g i = true := g1
   have e1 : true = moreU l g (i + 1) := by rw [moreU, if_pos e]
   have e2 : (rndU l g i).set i true = rndU l g (i + 1) := by rw [rndU, if_pos e]
   exact ⟨by omega, trivial, trivial, trivial, trivial, e1, trivial, trivial, by omega, by omega, e2⟩
  ·have e : goesL l g i = false := g1
   have e1 : moreU l g i = moreU l g (i + 1) := by rw [moreU, if_neg (by rw [e]; simp)]
   have e2 : rndU l g i = rndU l g (i + 1) := by rw [rndU, if_neg (by rw [e]; simp)]
   exact ⟨by omega, trivial, trivial, trivial, trivial, e1, trivial, trivial, by omega, by omega, e2⟩
 ·have h := of_decide_eq_false h
  have : i = l.length := by omega
  subst this; exact ⟨rfl, trivial, trivial, rfl, rfl⟩
def HRlO (l : List itT.ty) (i : Nat) : SState := { fr := [(0, .ro itT l), (5, .own 0), (6, .int .i64 (.sym i 0 1000000))], hp := [(0, some (.recs .bool (rlxN l i)))], next := 1, sz := 62 }
def XRlO (l : List itT.ty) : SState := { fr := [], hp := [], next := 0, sz := 62 }
def YRlO (l : List itT.ty) : SState := { fr := [(2, .own 0), (3, .any), (4, .bool (.lit true))], hp := [(0, some (.recs .bool (rlx l)))], next := 1, sz := 62 }
def LRlO (l : List itT.ty) : LSum := ⟨HRlO l 0, fun k => .ite (false) (k (.exit 0) (XRlO l)) (k .ret (YRlO l)), ItOk l ∧ TgOk l⟩
theorem bRlO (gl : List (Nat × SVal)) (l : List itT.ty) (i : Nat) : (Tr.sat (rnd2 (env gl [(72, klfits), (56, kPlacesB), (69, kmay), (70, kContZ)]) (fun i => chg l i) (l.length) (HRlO l) 0 (false) (XRlO l) (YRlO l) i) (run (env gl [(72, klfits), (56, kPlacesB), (69, kmay), (70, kContZ)]) [(9, LRlI l (rlxN l i) i)] (loopN (bodyOf Tryd.f55) 0) (HRlO l i) .leaf)) = (
 RQ (ItOk l ∧ List.length (rlxN l i) = List.length l) (RQ ((ItOk l ∧ TgOk l ∧ List.length (rlxN l i) = List.length l ∧ i ≤ 1000000) ∧ l = l ∧ (↑i : Int) = (↑i : Int) ∧ plA l (rlxN l i) = plA l (rlxN l i) ∧ false = moreU l (rlxN l i) (0 : Nat) ∧ l = l ∧ (↑(List.length l) : Int) = (↑(List.length l) : Int) ∧ (0 : Int) = (↑(0 : Nat) : Int) ∧ rlxN l i = rndU l (rlxN l i) (0 : Nat)) (IT (!moreU l (rlxN l i) (List.length l)) (false = false ∧ true = true ∧ rndU l (rlxN l i) (List.length l) = rlx l) (i < List.length l ∧ chg l (i + 1) ∧ l = l ∧ (↑i : Int) + 1 = (↑(i + 1) : Int) ∧ (0 ≤ (↑(i + 1) : Int) ∧ (↑(i + 1) : Int) ≤ 1000000) ∧ rndU l (rlxN l i) (List.length l) = rlxN l (i + 1))))) := by kernel_rfl
set_option maxHeartbeats 4000000 in
theorem lRlO (l : List itT.ty) {W : World} {R own0 : Nat → Prop} {ρ0 : Nat → Option Value} (hown : HownOk (env gl [(72, klfits), (56, kPlacesB), (69, kmay), (70, kContZ)]) own0 ρ0) : LOk Tryd.prog (env gl [(72, klfits), (56, kPlacesB), (69, kmay), (70, kContZ)]) (ctx ea has) gl W R own0 ρ0 (loopN (bodyOf Tryd.f55) 0) (LRlO l) := by
 refine loop2_ok (J := fun i => chg l i) (N := l.length) (H := HRlO l) (X := XRlO l) (Y := YRlO l) (env_ok (con := [(72, klfits), (56, kPlacesB), (69, kmay), (70, kContZ)]) ⟨clfits, cPlacesB, cmay, cContZ, trivial⟩) hown (ls := fun i => [(9, LRlI l (rlxN l i) i)]) (fun i => hl1 (by kernel_rfl) (by kernel_rfl) (lRlI l (rlxN l i) i hown)) (fun hm i hi hj => ?_) 0 (fun hm => by first | exact Nat.zero_le _ | omega) (fun hm => fun j hj => absurd hj (Nat.not_lt_zero _))
 rw [bRlO gl l i]
 delta RQ IT
 obtain ⟨h1, h2⟩ := hm
 have hlen := rlxN_len l i
 have hn := h1.1
 refine ⟨⟨h1, hlen⟩, fun _ => ⟨⟨⟨h1, h2, hlen, by omega⟩, rfl, rfl, rfl, rfl, rfl, rfl, rfl, rfl⟩, fun _ => ⟨fun h => ?_, fun h => ?_⟩⟩⟩
 ·have h : moreU l (rlxN l i) l.length = false := by simpa using h
  exact ⟨rfl, rfl, rlx_end l hi h⟩
 ·have h : moreU l (rlxN l i) l.length = true := by simpa using h
  have hc : chg l (i + 1) := fun j hj' => by
   by_cases e : j < i
   ·exact hj j e
   ·have : j = i := by omega
    subst this; exact h
  have := chg_le l hc
  exact ⟨by omega, hc, rfl, by omega, by omega, rfl⟩
def kDo12 : List SVal → Nat → Acc ORes := fun a n => match a with | [.ro (.flat (.int .i64) [.int .i64, .bool]) l] => .ret (newR n (.tuple [.own 0, .any, .bool (.lit true)]) ([(0, .recs .bool (rlx l))]) 1 (some (ItOk l ∧ TgOk l))) | _ => .fail "Do12"
theorem argDo12 (l : List itT.ty) : (all (subL tAtN none' [] deep [.ro (.flat (.int .i64) [.int .i64, .bool]) l] [.ro itT l])) = (
 l = l) := by kernel_rfl
theorem runDo12 (gl : List (Nat × SVal)) (l : List itT.ty) : (Tr.sat (newQ (env gl [(72, klfits), (56, kPlacesB), (69, kmay), (70, kContZ)]) (.tuple [.own 0, .any, .bool (.lit true)]) ([(0, .recs .bool (rlx l))]) 1) (run (env gl [(72, klfits), (56, kPlacesB), (69, kmay), (70, kContZ)]) [(6, LRlO l)] (bodyOf Tryd.f55) (start [.ro itT l] 62) (ends (env gl [(72, klfits), (56, kPlacesB), (69, kmay), (70, kContZ)]) Tryd.f55.results.toList))) = (
 RQ ((!decide ((4096 : Int) < (↑(List.length l) : Int))) = true → List.length l ≤ 1000000) (RQ ((!(decide ((4096 : Int) < (↑(List.length l) : Int)) || !!decide (0 ≤ fndI (badT l) (List.length l)))) = true → List.length l ≤ 1000000) (IT (decide ((4096 : Int) < (↑(List.length l) : Int)) || !!decide (0 ≤ fndI (badT l) (List.length l)) || decide (0 ≤ fndI (badZ l) (List.length l))) (false = true ∧ @List.nil (RT.ty RT.bool) = rlx l) (RQ (0 ≤ (↑(List.length l) : Int) ∧ (↑(List.length l) : Int) ≤ (↑(List.length l) : Int) ∧ (↑(List.length l) : Int) ≤ 137438953472) (RQ ((ItOk l ∧ TgOk l) ∧ l = l ∧ (0 : Int) = (↑(0 : Nat) : Int) ∧ List.replicate (Int.toNat (↑(List.length l) : Int)) (RT.dflt RT.bool) = rlxN l (0 : Nat)) (IT false (False ∧ False ∧ False) (true = true ∧ rlx l = rlx l))))))) := by kernel_rfl
set_option maxHeartbeats 4000000 in
theorem cDo12 : Con ea has gl 55 kDo12 := by
 refine new_mkB Tryd.func55 62 (con := [(72, klfits), (56, kPlacesB), (69, kmay), (70, kContZ)]) ⟨clfits, cPlacesB, cmay, cContZ, trivial⟩ (fun hA hr hv => ?_) (by kernel_rfl) (by kernel_rfl) Tryd.ntmps55
 unfold kDo12 at hr; split at hr
 ·rename_i l
  have := ret_ok hr; subst this
  replace hv := hv _ rfl
  refine ⟨_, [(6, LRlO l)], _, _, _, ⟨rfl, rfl, rfl⟩, .of (argDo12 l) (by simp), rfl, rfl, (fun W R ρ0 own0 hown => hl1 (by kernel_rfl) (by kernel_rfl) (lRlO l hown)), .of (runDo12 gl l) ?_⟩
  delta RQ IT
  clear hr
  obtain ⟨h1, h2⟩ := hv
  have hn := h1.1
  have a1 : fndI (badT l) l.length = -1 := fnd_none fun i _ => by
   unfold badT
   cases hb : itB l i with
   | false => rfl
   | true => have := h2 i hb; simp; omega
  have a2 : fndI (badZ l) l.length = -1 := fnd_none fun i _ => by
   have := h1.2 i
   unfold badZ; simp; omega
  rw [a1, a2]
  refine ⟨fun _ => by omega, fun _ => ⟨fun _ => by omega, fun _ => ⟨fun h => ?_, fun _ => ⟨by omega, fun _ => ⟨⟨⟨h1, h2⟩, rfl, rfl, by rw [Int.toNat_natCast]; rfl⟩, fun _ => ⟨fun h => (by cases h), fun _ => ⟨rfl, rfl⟩⟩⟩⟩⟩⟩⟩
  simp at h; omega
 ·cases hr
end
end Go.Proofs.YtacmmedhjebfjaaDoor
