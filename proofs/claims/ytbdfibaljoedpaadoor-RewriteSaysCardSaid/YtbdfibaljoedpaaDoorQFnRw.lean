/- Contracts that the proofs use. -/
import Derived.Test.YtbdfibaljoedpaaDoorQFnNum
import Derived.Test.YtbdfibaljoedpaaDoorQFnSite
set_option linter.unusedVariables false
set_option linter.unusedSimpArgs false
namespace Go.Proofs.YtbdfibaljoedpaaDoor
open Go.RowKit Go.Sy Go.Fac
section
variable {ea : Int → Addr} {has : Int → Prop} {rest : List (Nat × SVal)}
def ahead (c m : List Int) (i : Nat) : Nat := (sitesF c m (startsF c m i)).length
theorem sitesF_app (c m l l' : List Int) : sitesF c m (l ++ l') = sitesF c m l ++ sitesF c m l' := by simp [sitesF]
theorem sitesF_one (c m : List Int) (a : Int) : sitesF c m [a] = siteOf c m a := by simp [sitesF]
theorem siteOf_at {c m : List Int} {a : Int} {s : St} (h : s ∈ siteOf c m a) : s.at_ = a := by
  unfold siteOf at h
  simp only at h
  split at h
  · simp only [List.mem_singleton] at h; rw [h]
  · cases h
def sitesAt (c m : List Int) (i : Nat) : List St := if m.getD i 0 = 1 ∧ i < c.length then siteOf c m i else []
theorem sites_succ (c m : List Int) (i : Nat) : sitesF c m (startsF c m (i + 1)) = sitesF c m (startsF c m i) ++ sitesAt c m i := by
  have e : startsF c m (i + 1) = if m.getD i 0 = 1 ∧ i < c.length then startsF c m i ++ [(i : Int)] else startsF c m i := rfl
  rw [e]
  unfold sitesAt
  split
  · rw [sitesF_app, sitesF_one]
  · rw [List.append_nil]
theorem sites_tail (c m : List Int) (i : Nat) : ∀ k, ∃ X, sitesF c m (startsF c m (i + k)) = sitesF c m (startsF c m i) ++ X ∧ ∀ s ∈ X, (i : Int) ≤ s.at_
  | 0 => ⟨[], by simp, by simp⟩
  | k + 1 => by
    obtain ⟨X, h1, h2⟩ := sites_tail c m i k
    refine ⟨X ++ sitesAt c m (i + k), ?_, fun s hs => ?_⟩
    · rw [show i + (k + 1) = (i + k) + 1 by omega, sites_succ, h1, List.append_assoc]
    · rcases List.mem_append.1 hs with h | h
      · exact h2 s h
      · unfold sitesAt at h
        split at h
        · rw [siteOf_at h]; omega
        · cases h
def isF (c m : List Int) (i : Nat) : Bool := decide (m.getD i 0 = 1) && (decide (isaClass (c.getD i 0 / 16777216) = 2) || decide (isaClass (c.getD i 0 / 16777216) = 3))
theorem ahead_le (c m : List Int) (i : Nat) : ahead c m i ≤ i := Nat.le_trans (sitesF_len c m _) (startsF_len c m i)
theorem finds {d c m : List Int} {dr cr : List Rel} {sy : List Sm} (hv : (validE d c m dr cr sy).isErr = false) {i : Nat} (hi : i < c.length) :
    (isF c m i = true → ahead c m i < (sitesM d c m dr cr sy).length ∧ ((sitesM d c m dr cr sy).getD (ahead c m i) RT.site.dflt).at_ = i ∧ ((sitesM d c m dr cr sy).getD (ahead c m i) RT.site.dflt).cls = isaClass (c.getD i 0 / 16777216) ∧
      ((sitesM d c m dr cr sy).getD (ahead c m i) RT.site.dflt).i.op = c.getD i 0 / 16777216 ∧ ahead c m (i + 1) = ahead c m i + 1) ∧
    (isF c m i = false → (ahead c m i < (sitesM d c m dr cr sy).length → ((sitesM d c m dr cr sy).getD (ahead c m i) RT.site.dflt).at_ ≠ i) ∧ ahead c m (i + 1) = ahead c m i) := by
  obtain ⟨v1, v2, _, _, _, _, v3, _⟩ := valid_size hv
  have hs : sitesM d c m dr cr sy = sitesF c m (startsF c m m.length) := by unfold sitesM; rw [if_neg (by rw [hv]; simp)]
  obtain ⟨X, h1, h2⟩ := sites_tail c m (i + 1) (m.length - (i + 1))
  rw [show i + 1 + (m.length - (i + 1)) = m.length by omega] at h1
  have hsucc := sites_succ c m i
  rw [hs, h1, hsucc]
  have hw := firstE_all (fun i => wordE_np c m i) v3 i hi
  have hah : ahead c m (i + 1) = ahead c m i + (sitesAt c m i).length := by unfold ahead; rw [hsucc, List.length_append]
  have hop : m.getD i 0 = 1 → insI c m i = ofF (c.getD i 0) (nextW c i) ∧ ofOk (c.getD i 0) = true := fun hm => by
    have hw' : (wordE c m i).isErr = false := hw
    unfold wordE at hw'
    rw [Int.toNat_natCast, if_pos hm] at hw'
    split at hw'
    · cases hw'
    · rename_i hb
      have hb : insB c m i = true := by
        cases hh : insB c m i with
        | true => rfl
        | false => rw [hh] at hb; simp at hb
      have hb' := hb
      unfold insB at hb
      rw [Bool.and_eq_true, Int.toNat_natCast] at hb
      refine ⟨?_, hb.2⟩
      unfold insI
      rw [if_pos hb.1, Int.toNat_natCast]
  have hop2 : m.getD i 0 = 1 → (insI c m i).op = c.getD i 0 / 16777216 := fun hm => by
    obtain ⟨e1, e2⟩ := hop hm
    rw [e1]; unfold ofF; rw [if_pos e2]
  refine ⟨fun h => ?_, fun h => ?_⟩
  · unfold isF at h
    rw [Bool.and_eq_true] at h
    have hm := of_decide_eq_true h.1
    have hS : sitesAt c m i = [⟨i, isaClass (insI c m i).op, insI c m i⟩] := by
      unfold sitesAt
      rw [if_pos ⟨hm, hi⟩]
      unfold siteOf
      simp only
      rw [hop2 hm, if_pos h.2]
    rw [hS] at hah ⊢
    have hg : (sitesF c m (startsF c m i) ++ [(⟨i, isaClass (insI c m i).op, insI c m i⟩ : St)] ++ X).getD (ahead c m i) RT.site.dflt = (⟨i, isaClass (insI c m i).op, insI c m i⟩ : St) := by
      unfold ahead
      rw [List.append_assoc, List.getD_eq_getElem?_getD, List.getElem?_append_right (Nat.le_refl _)]
      simp
    rw [hg]
    refine ⟨by unfold ahead; simp, rfl, by rw [hop2 hm], hop2 hm, hah⟩
  · have hS : sitesAt c m i = [] := by
      unfold sitesAt
      split
      · rename_i hm
        unfold siteOf
        simp only
        rw [hop2 hm.1, if_neg]
        intro hh
        unfold isF at h
        rw [hh, decide_eq_true hm.1] at h
        cases h
      · rfl
    rw [hS] at hah ⊢
    refine ⟨fun hlt => ?_, hah⟩
    rw [List.append_nil] at hlt ⊢
    rw [List.length_append] at hlt
    unfold ahead at hlt ⊢
    rw [List.getD_eq_getElem?_getD, List.getElem?_append_right (Nat.le_refl _), Nat.sub_self]
    cases X with
    | nil => simp at hlt
    | cons x X =>
      have := h2 x (List.mem_cons_self ..)
      simp only [List.getElem?_cons_zero, Option.getD_some]
      omega
abbrev markI : Int := 2147483648
def hcW : Int := wordW 96 0 0 0 0
def markW (w : Int) : Int := bits .or .u32 markI w
def rwC (c m : List Int) : Nat → List Int
  | 0 => []
  | i + 1 => rwC c m i ++ if isF c m i = true then [hcW, markW (c.getD i 0)] else [c.getD i 0]
def rwM (c m : List Int) : Nat → List Int
  | 0 => []
  | i + 1 => rwM c m i ++ if isF c m i = true then [1, 0] else [m.getD i 0]
def rwT (c m : List Int) : Nat → List Int
  | 0 => []
  | i + 1 => rwT c m i ++ [((rwC c m i).length : Int)]
theorem rwT_len (c m : List Int) : ∀ i, (rwT c m i).length = i
  | 0 => rfl
  | i + 1 => by rw [rwT, List.length_append, rwT_len c m i]; rfl
theorem rwC_len (c m : List Int) : ∀ i, (rwC c m i).length ≤ 2 * i ∧ (rwM c m i).length = (rwC c m i).length
  | 0 => ⟨Nat.le_refl _, rfl⟩
  | i + 1 => by
    have h := rwC_len c m i
    rw [rwC, rwM]
    simp only [List.length_append]
    split <;> simp only [List.length_cons, List.length_nil] <;> omega
def placeI (T : List Int) (i : Int) : Int := T.getD i.toNat 0
def relTo (T : List Int) (r : Rel) : Rel := { r with at_ := placeI T r.at_ }
def symTo (T : List Int) (s : Sm) : Sm := if s.in_ = 2 then { s with value := placeI T s.value } else s
def upTo {α : Type} (f : α → α) (n : Nat) (l : List α) : List α := (l.take n).map f ++ l.drop n
theorem upTo_zero {α : Type} (f : α → α) (l : List α) : upTo f 0 l = l := by simp [upTo]
theorem upTo_all {α : Type} (f : α → α) (l : List α) : upTo f l.length l = l.map f := by simp [upTo]
theorem upTo_len {α : Type} (f : α → α) (n : Nat) (l : List α) : (upTo f n l).length = l.length := by simp [upTo]; omega
theorem upTo_get {α : Type} (f : α → α) (d : α) {n : Nat} {l : List α} (h : n < l.length) : (upTo f n l).getD n d = l.getD n d := by
  unfold upTo
  rw [List.getD_eq_getElem?_getD, List.getElem?_append_right (by simp; omega)]
  simp [Nat.min_eq_left (Nat.le_of_lt h)]
theorem take_get1 {α : Type} (l : List α) (d : α) {i : Nat} (h : i < l.length) : l.take (i + 1) = l.take i ++ [l.getD i d] := by rw [List.take_add_one, List.getElem?_eq_getElem h]; simp [h]
theorem upTo_set {α : Type} (f : α → α) (d : α) {n : Nat} {l : List α} (h : n < l.length) : (upTo f n l).set n (f (l.getD n d)) = upTo f (n + 1) l := by
  unfold upTo
  have hl : ((l.take n).map f).length = n := by simp; omega
  rw [List.set_append_right _ _ (by omega), hl, Nat.sub_self, List.drop_eq_getElem_cons h, List.set_cons_zero, take_get1 l d h, List.map_append, List.append_assoc]
  rfl
def rwTo (c m : List Int) : List Int := rwT c m c.length
theorem drop_head {α : Type} (L : List α) (A : Nat) (d : α) : (L.drop A).getD 0 d = L.getD A d := by
  rw [List.getD_eq_getElem?_getD, List.getD_eq_getElem?_getD, List.getElem?_drop, Nat.add_zero]
abbrev obBox (d c m : List Int) (dr cr : List Rel) (sy : List Sm) : Option Cont := some (.cells [.ro .u32 d, .ro .u32 c, .ro .u8 m, .ro .rel dr, .ro .rel cr, .ro .sym sy])
def hpRw (d c m : List Int) (dr cr : List Rel) (sy : List Sm) (T C M : List Int) : List (Nat × Option Cont) := [(0, obBox d c m dr cr sy), (1, some (.cells [.nilslice, .nilslice, .nilslice, .nilslice, .nilslice, .nilslice])), (2, some (.cells [.own 4, .own 5, .own 6, .own 7, .own 8, .own 9])), (3, some (.recs .i64 T)), (4, some (.recs .u32 d)), (5, some (.recs .u32 C)), (6, some (.recs .u8 M)), (7, some (.recs .rel dr)), (8, some (.recs .rel cr)), (9, some (.recs .sym sy))]
def frRw (c : List Int) (L : List St) (i : Nat) : List (Nat × SVal) := [(1, .ptr 0 0), (2, .ptr 1 0), (5, .ro .site L), (7, .int .u32 (.full hcW)), (9, .ptr 2 0), (10, .own 3), (44, .ro .u32 c), (45, .int .i64 (.full c.length)), (46, .int .i64 (.sym i 0 1000000))]
def sitesD (d c m : List Int) (dr cr : List Rel) (sy : List Sm) (i : Nat) : List St := (sitesM d c m dr cr sy).drop (ahead c m i)
def rwCut (d c m : List Int) (dr cr : List Rel) (sy : List Sm) (i : Nat) : LSum := cutL { fr := frRw c (sitesD d c m dr cr sy i) i ++ [(11, .int .i64 (.sym i 0 1000000)), (12, .int .u32 (.full (c.getD i 0)))], hp := hpRw d c m dr cr sy (rwT c m (i + 1)) (rwC c m i) (rwM c m i), next := 10, sz := 154 }
theorem rwTo_len (c m : List Int) : (rwTo c m).length = c.length := rwT_len c m c.length
theorem relocs_fine {d c m : List Int} {dr cr : List Rel} {sy : List Sm} (h : (relocsE d c m dr cr sy).isErr = false) : (firstE (drE d dr sy) dr.length).isErr = false ∧ (firstE (crE c m cr sy) cr.length).isErr = false ∧ (firstE (needE c m cr) c.length).isErr = false := by
  unfold relocsE at h
  split at h
  · rename_i h1; rw [h] at h1; cases h1
  · rename_i h1
    split at h
    · rename_i h2; rw [h] at h2; cases h2
    · rename_i h2
      exact ⟨by simpa using h1, by simpa using h2, h⟩
theorem crE_np (c m : List Int) (cr : List Rel) (sy : List Sm) (i : Nat) : (crE c m cr sy i).isPlaced = false := by
  unfold crE; simp only; split
  · rfl
  · exact relocE_np
theorem valid_cr {d c m : List Int} {dr cr : List Rel} {sy : List Sm} (h : (validE d c m dr cr sy).isErr = false) {i : Nat} (hi : i < cr.length) : 0 ≤ (cr.getD i RT.rel.dflt).at_ ∧ (cr.getD i RT.rel.dflt).at_ < c.length := by
  obtain ⟨_, _, _, _, _, _, _, _, v9⟩ := valid_size h
  have := firstE_all (fun i => crE_np c m cr sy i) (relocs_fine v9).2.1 i hi
  unfold crE at this
  simp only at this
  split at this
  · cases this
  · obtain ⟨h1, h2, _⟩ := relocE_ok this; exact ⟨h1, h2⟩
theorem valid_sy {d c m : List Int} {dr cr : List Rel} {sy : List Sm} (h : (validE d c m dr cr sy).isErr = false) {i : Nat} (hi : i < sy.length) : symFine d c m (sy.getD i RT.sym.dflt).in_ (sy.getD i RT.sym.dflt).value (sy.getD i RT.sym.dflt).global = true ∧ symOk (sy.getD i RT.sym.dflt).name = true := by
  obtain ⟨_, _, _, _, _, _, _, v8, _⟩ := valid_size h
  have := firstE_all (fun i => symE_np d c m _ _ _ _ _) v8 i hi
  unfold syE symE at this
  split at this
  · cases this
  · rename_i hk
    split at this
    · cases this
    · split at this
      · rename_i hf; exact ⟨hf, by simpa using hk⟩
      · cases this
theorem valid_code {d c m : List Int} {dr cr : List Rel} {sy : List Sm} (h : (validE d c m dr cr sy).isErr = false) {i : Nat} (hi : i < sy.length) (h2 : (sy.getD i RT.sym.dflt).in_ = 2) : 0 ≤ (sy.getD i RT.sym.dflt).value ∧ (sy.getD i RT.sym.dflt).value < c.length := by
  have := (valid_sy h hi).1
  unfold symFine at this
  rw [if_neg (by omega), if_pos h2] at this
  simp at this
  exact this.1
def HrwA (d c m : List Int) (dr cr : List Rel) (sy : List Sm) (i : Nat) : SState := { fr := frRw c (sitesD d c m dr cr sy i) i, hp := hpRw d c m dr cr sy (rwT c m i) (rwC c m i) (rwM c m i), next := 10, sz := 154 }
def XrwA (d c m : List Int) (dr cr : List Rel) (sy : List Sm) : SState := { fr := [(1, .ptr 0 0), (2, .ptr 1 0), (9, .ptr 2 0), (10, .own 3)], hp := hpRw d c m dr cr sy (rwTo c m) (rwC c m c.length) (rwM c m c.length), next := 10, sz := 154 }
def LrwA (d c m : List Int) (dr cr : List Rel) (sy : List Sm) : LSum := ⟨HrwA d c m dr cr sy 0, fun k => k (.exit 0) (XrwA d c m dr cr sy), (validE d c m dr cr sy).isErr = false⟩
theorem brwA (rest : List (Nat × SVal)) (d c m : List Int) (dr cr : List Rel) (sy : List Sm) (i : Nat) : (Tr.sat (rnd1 (env (G7 ++ rest) [(18, kSites), (77, kWord), (29, kCloneO)]) (fun _ => True) (c.length) (HrwA d c m dr cr sy) 0 (XrwA d c m dr cr sy) i) (run (env (G7 ++ rest) [(18, kSites), (77, kWord), (29, kCloneO)]) [(1000013, rwCut d c m dr cr sy i)] (loopN (bodyOf Tryd.f33) 0) (HrwA d c m dr cr sy i) .leaf)) = (
  (decide ((↑i : Int) < (↑(List.length c) : Int)) = true → ((0 : Int) ≤ (↑i : Int) ∧ (↑i : Int) < (↑(List.length c) : Int)) ∧ ((0 : Int) ≤ (↑i : Int) ∧ (↑i : Int) < (↑(List.length c) : Int) → List.length (rwT c m i) + List.length [(↑(List.length (rwC c m i)) : Int)] ≤ (137438953472 : Nat) ∧ (List.length (rwT c m i) + List.length [(↑(List.length (rwC c m i)) : Int)] ≤ (137438953472 : Nat) → (sitesD d c m dr cr sy i = sitesD d c m dr cr sy i ∧ hcW = hcW ∧ c = c ∧ (↑(List.length c) : Int) = (↑(List.length c) : Int) ∧ (↑i : Int) = (↑i : Int) ∧ (↑i : Int) = (↑i : Int) ∧ List.getD c (Int.toNat (↑i : Int)) (RT.dflt RT.u32) = List.getD c i (0 : Int) ∧ d = d ∧ c = c ∧ m = m ∧ dr = dr ∧ cr = cr ∧ sy = sy ∧ rwT c m i ++ [(↑(List.length (rwC c m i)) : Int)] = rwT c m (i + (1 : Nat)) ∧ d = d ∧ rwC c m i = rwC c m i ∧ rwM c m i = rwM c m i ∧ dr = dr ∧ cr = cr ∧ sy = sy) ∧ (sitesD d c m dr cr sy i = sitesD d c m dr cr sy i ∧ hcW = hcW ∧ c = c ∧ (↑(List.length c) : Int) = (↑(List.length c) : Int) ∧ (↑i : Int) = (↑i : Int) ∧ (↑i : Int) = (↑i : Int) ∧ List.getD c (Int.toNat (↑i : Int)) (RT.dflt RT.u32) = List.getD c i (0 : Int) ∧ d = d ∧ c = c ∧ m = m ∧ dr = dr ∧ cr = cr ∧ sy = sy ∧ rwT c m i ++ [(↑(List.length (rwC c m i)) : Int)] = rwT c m (i + (1 : Nat)) ∧ d = d ∧ rwC c m i = rwC c m i ∧ rwM c m i = rwM c m i ∧ dr = dr ∧ cr = cr ∧ sy = sy → (decide ((0 : Int) < (↑(List.length (sitesD d c m dr cr sy i)) : Int)) = true → (0 : Int) ≤ (0 : Int) ∧ (0 : Int) < (↑(List.length (sitesD d c m dr cr sy i)) : Int)) ∧ ((decide ((0 : Int) < (↑(List.length (sitesD d c m dr cr sy i)) : Int)) = true → (0 : Int) ≤ (0 : Int) ∧ (0 : Int) < (↑(List.length (sitesD d c m dr cr sy i)) : Int)) → ((decide ((0 : Int) < (↑(List.length (sitesD d c m dr cr sy i)) : Int)) && decide ((List.getD (sitesD d c m dr cr sy i) (Int.toNat (0 : Int)) (RT.dflt RT.site)).at_ = (↑i : Int))) = true → ((0 : Int) ≤ (1 : Int) ∧ (1 : Int) ≤ (↑(List.length (sitesD d c m dr cr sy i)) : Int)) ∧ ((0 : Int) ≤ (1 : Int) ∧ (1 : Int) ≤ (↑(List.length (sitesD d c m dr cr sy i)) : Int) → List.length (rwC c m i) + List.length [hcW, bits BinOp.or IntKind.u32 (2147483648 : Int) (List.getD c i (0 : Int))] ≤ (137438953472 : Nat) ∧ (List.length (rwC c m i) + List.length [hcW, bits BinOp.or IntKind.u32 (2147483648 : Int) (List.getD c i (0 : Int))] ≤ (137438953472 : Nat) → List.length (rwM c m i) + List.length [(1 : Int), (0 : Int)] ≤ (137438953472 : Nat) ∧ (List.length (rwM c m i) + List.length [(1 : Int), (0 : Int)] ≤ (137438953472 : Nat) → i < List.length c ∧ True ∧ pieceL (sitesD d c m dr cr sy i) (some (SI.lit (1 : Int))) none = sitesD d c m dr cr sy (i + (1 : Nat)) ∧ (1610612736 : Int) = hcW ∧ c = c ∧ (↑(List.length c) : Int) = (↑(List.length c) : Int) ∧ (↑i : Int) + (1 : Int) = (↑(i + (1 : Nat)) : Int) ∧ ((0 : Int) ≤ (↑(i + (1 : Nat)) : Int) ∧ (↑(i + (1 : Nat)) : Int) ≤ (1000000 : Int)) ∧ d = d ∧ c = c ∧ m = m ∧ dr = dr ∧ cr = cr ∧ sy = sy ∧ rwT c m (i + (1 : Nat)) = rwT c m (i + (1 : Nat)) ∧ d = d ∧ rwC c m i ++ [hcW, bits BinOp.or IntKind.u32 (2147483648 : Int) (List.getD c i (0 : Int))] = rwC c m (i + (1 : Nat)) ∧ rwM c m i ++ [(1 : Int), (0 : Int)] = rwM c m (i + (1 : Nat)) ∧ dr = dr ∧ cr = cr ∧ sy = sy)))) ∧ ((decide ((0 : Int) < (↑(List.length (sitesD d c m dr cr sy i)) : Int)) && decide ((List.getD (sitesD d c m dr cr sy i) (Int.toNat (0 : Int)) (RT.dflt RT.site)).at_ = (↑i : Int))) = false → List.length (rwC c m i) + List.length [List.getD c i (0 : Int)] ≤ (137438953472 : Nat) ∧ (List.length (rwC c m i) + List.length [List.getD c i (0 : Int)] ≤ (137438953472 : Nat) → ((0 : Int) ≤ (↑i : Int) ∧ (↑i : Int) < (↑(List.length m) : Int)) ∧ ((0 : Int) ≤ (↑i : Int) ∧ (↑i : Int) < (↑(List.length m) : Int) → List.length (rwM c m i) + List.length [List.getD m (Int.toNat (↑i : Int)) (RT.dflt RT.u8)] ≤ (137438953472 : Nat) ∧ (List.length (rwM c m i) + List.length [List.getD m (Int.toNat (↑i : Int)) (RT.dflt RT.u8)] ≤ (137438953472 : Nat) → i < List.length c ∧ True ∧ sitesD d c m dr cr sy i = sitesD d c m dr cr sy (i + (1 : Nat)) ∧ (1610612736 : Int) = hcW ∧ c = c ∧ (↑(List.length c) : Int) = (↑(List.length c) : Int) ∧ (↑i : Int) + (1 : Int) = (↑(i + (1 : Nat)) : Int) ∧ ((0 : Int) ≤ (↑(i + (1 : Nat)) : Int) ∧ (↑(i + (1 : Nat)) : Int) ≤ (1000000 : Int)) ∧ d = d ∧ c = c ∧ m = m ∧ dr = dr ∧ cr = cr ∧ sy = sy ∧ rwT c m (i + (1 : Nat)) = rwT c m (i + (1 : Nat)) ∧ d = d ∧ rwC c m i ++ [List.getD c i (0 : Int)] = rwC c m (i + (1 : Nat)) ∧ rwM c m i ++ [List.getD m (Int.toNat (↑i : Int)) (RT.dflt RT.u8)] = rwM c m (i + (1 : Nat)) ∧ dr = dr ∧ cr = cr ∧ sy = sy))))))))) ∧ (decide ((↑i : Int) < (↑(List.length c) : Int)) = false → Nat.beq (0 : Nat) (0 : Nat) = true ∧ d = d ∧ c = c ∧ m = m ∧ dr = dr ∧ cr = cr ∧ sy = sy ∧ rwT c m i = rwTo c m ∧ d = d ∧ rwC c m i = rwC c m (List.length c) ∧ rwM c m i = rwM c m (List.length c) ∧ dr = dr ∧ cr = cr ∧ sy = sy)) := by kernel_rfl
set_option maxHeartbeats 4000000 in
theorem lrwA (d c m : List Int) (dr cr : List Rel) (sy : List Sm) {W : World} {R own0 : Nat → Prop} {ρ0 : Nat → Option Value} (hown : HownOk (env (G7 ++ rest) [(18, kSites), (77, kWord), (29, kCloneO)]) own0 ρ0) : LOk Tryd.prog (env (G7 ++ rest) [(18, kSites), (77, kWord), (29, kCloneO)]) (ctx ea has) (G7 ++ rest) W R own0 ρ0 (loopN (bodyOf Tryd.f33) 0) (LrwA d c m dr cr sy) := by
  refine loop1_ok (env_ok (con := [(18, kSites), (77, kWord), (29, kCloneO)]) ⟨cSites, cWord, cCloneO, trivial⟩) hown (ls := fun i => [(1000013, rwCut d c m dr cr sy i)]) (fun i => noLoops (by kernel_rfl)) (fun hm i hi hj => (brwA rest d c m dr cr sy i).mpr ?_) 0 (fun hm => by first | exact Nat.zero_le _ | omega) (fun hm => trivial)
  have d0 : RT.u32.dflt = (0 : Int) := rfl
  have d1 : RT.u8.dflt = (0 : Int) := rfl
  have t0 : Int.toNat 0 = 0 := rfl
  simp only [Int.toNat_natCast, eq_self, true_and, and_true, d0, d1, t0]
  obtain ⟨v1, v2, _⟩ := valid_size hm
  have hT := rwT_len c m i
  have hC := rwC_len c m i
  have eS : sitesD d c m dr cr sy i = (sitesM d c m dr cr sy).drop (ahead c m i) := rfl
  have eS2 : sitesD d c m dr cr sy (i + 1) = (sitesM d c m dr cr sy).drop (ahead c m (i + 1)) := rfl
  refine ⟨fun h => ?_, fun h => ?_⟩
  · have h := of_decide_eq_true h
    have hlt : i < c.length := by omega
    obtain ⟨f1, f2⟩ := finds hm hlt
    refine ⟨by omega, fun _ => ⟨by rw [hT]; simp only [List.length_singleton]; omega, fun _ => ⟨rfl, fun _ => ⟨fun h => (by have := of_decide_eq_true h; omega), fun _ => ⟨fun h => ?_, fun h => ?_⟩⟩⟩⟩⟩
    · rw [Bool.and_eq_true] at h
      have q1 := of_decide_eq_true h.1
      have q2 := of_decide_eq_true h.2
      rw [eS, drop_head] at q2
      rw [eS, List.length_drop] at q1
      have hF : isF c m i = true := by
        cases hf : isF c m i with
        | true => rfl
        | false => exact ((f2 hf).1 (by omega) q2).elim
      obtain ⟨g1, _, _, _, g5⟩ := f1 hF
      refine ⟨by rw [eS, List.length_drop]; omega, fun _ => ⟨by simp only [List.length_cons, List.length_nil]; omega, fun _ => ⟨by simp only [List.length_cons, List.length_nil]; omega, fun _ => ⟨hlt, ?_, by decide, by omega, by omega, ?_, ?_⟩⟩⟩⟩
      · rw [eS, eS2, g5]
        show (List.drop _ _).drop (SI.val (.lit 1)).toNat = _
        rw [List.drop_drop]; rfl
      · rw [rwC, if_pos hF]; rfl
      · rw [rwM, if_pos hF]
    · have hF : isF c m i = false := by
        cases hf : isF c m i with
        | false => rfl
        | true =>
          obtain ⟨g1, g2, _⟩ := f1 hf
          rw [eS, drop_head, List.length_drop, decide_eq_true (by omega), decide_eq_true g2] at h
          cases h
      have g5 := (f2 hF).2
      refine ⟨by simp only [List.length_cons, List.length_nil]; omega, fun _ => ⟨by omega, fun _ => ⟨by simp only [List.length_cons, List.length_nil]; omega, fun _ => ⟨hlt, by rw [eS, eS2, g5], by decide, by omega, by omega, ?_, ?_⟩⟩⟩⟩
      · rw [rwC, hF]; rfl
      · rw [rwM, hF]; rfl
  · have h := of_decide_eq_false h
    have e : i = c.length := by omega
    subst e
    exact ⟨rfl, rfl, rfl, rfl⟩
def HrwR (d c m : List Int) (dr cr : List Rel) (sy : List Sm) (i : Nat) : SState := { fr := [(2, .ptr 1 0), (9, .ptr 2 0), (10, .own 3), (102, .int .i64 (.full cr.length)), (103, .int .i64 (.sym i 0 1000000))], hp := [(1, some (.cells [.nilslice, .nilslice, .nilslice, .nilslice, .nilslice, .nilslice])), (2, some (.cells [.own 4, .own 5, .own 6, .own 7, .own 8, .own 9])), (3, some (.recs .i64 (rwTo c m))), (4, some (.recs .u32 d)), (5, some (.recs .u32 (rwC c m c.length))), (6, some (.recs .u8 (rwM c m c.length))), (7, some (.recs .rel dr)), (8, some (.recs .rel (upTo (relTo (rwTo c m)) i cr))), (9, some (.recs .sym sy))], next := 10, sz := 154 }
def XrwR (d c m : List Int) (dr cr : List Rel) (sy : List Sm) : SState := { fr := [(2, .ptr 1 0), (9, .ptr 2 0), (10, .own 3)], hp := [(1, some (.cells [.nilslice, .nilslice, .nilslice, .nilslice, .nilslice, .nilslice])), (2, some (.cells [.own 4, .own 5, .own 6, .own 7, .own 8, .own 9])), (3, some (.recs .i64 (rwTo c m))), (4, some (.recs .u32 d)), (5, some (.recs .u32 (rwC c m c.length))), (6, some (.recs .u8 (rwM c m c.length))), (7, some (.recs .rel dr)), (8, some (.recs .rel (cr.map (relTo (rwTo c m))))), (9, some (.recs .sym sy))], next := 10, sz := 154 }
def LrwR (d c m : List Int) (dr cr : List Rel) (sy : List Sm) : LSum := ⟨HrwR d c m dr cr sy 0, fun k => k (.exit 2) (XrwR d c m dr cr sy), (validE d c m dr cr sy).isErr = false⟩
theorem brwR (rest : List (Nat × SVal)) (d c m : List Int) (dr cr : List Rel) (sy : List Sm) (i : Nat) : (Tr.sat (rnd1 (env (G7 ++ rest) [(18, kSites), (77, kWord), (29, kCloneO)]) (fun _ => True) (cr.length) (HrwR d c m dr cr sy) 2 (XrwR d c m dr cr sy) i) (run (env (G7 ++ rest) [(18, kSites), (77, kWord), (29, kCloneO)]) [] (loopN (bodyOf Tryd.f33) 1) (HrwR d c m dr cr sy i) .leaf)) = (
  (decide ((↑i : Int) < (↑(List.length cr) : Int)) = true → ((0 : Int) ≤ (↑i : Int) ∧ (↑i : Int) < (↑(List.length (upTo (relTo (rwTo c m)) i cr)) : Int)) ∧ ((0 : Int) ≤ (↑i : Int) ∧ (↑i : Int) < (↑(List.length (upTo (relTo (rwTo c m)) i cr)) : Int) → ((0 : Int) ≤ (List.getD (upTo (relTo (rwTo c m)) i cr) (Int.toNat (↑i : Int)) (RT.dflt RT.rel)).at_ ∧ (List.getD (upTo (relTo (rwTo c m)) i cr) (Int.toNat (↑i : Int)) (RT.dflt RT.rel)).at_ < (↑(List.length (rwTo c m)) : Int)) ∧ ((0 : Int) ≤ (List.getD (upTo (relTo (rwTo c m)) i cr) (Int.toNat (↑i : Int)) (RT.dflt RT.rel)).at_ ∧ (List.getD (upTo (relTo (rwTo c m)) i cr) (Int.toNat (↑i : Int)) (RT.dflt RT.rel)).at_ < (↑(List.length (rwTo c m)) : Int) → ((0 : Int) ≤ (↑i : Int) ∧ (↑i : Int) < (↑(List.length (upTo (relTo (rwTo c m)) i cr)) : Int)) ∧ ((0 : Int) ≤ (↑i : Int) ∧ (↑i : Int) < (↑(List.length (upTo (relTo (rwTo c m)) i cr)) : Int) → i < List.length cr ∧ True ∧ (↑(List.length cr) : Int) = (↑(List.length cr) : Int) ∧ (↑i : Int) + (1 : Int) = (↑(i + (1 : Nat)) : Int) ∧ ((0 : Int) ≤ (↑(i + (1 : Nat)) : Int) ∧ (↑(i + (1 : Nat)) : Int) ≤ (1000000 : Int)) ∧ rwTo c m = rwTo c m ∧ d = d ∧ rwC c m (List.length c) = rwC c m (List.length c) ∧ rwM c m (List.length c) = rwM c m (List.length c) ∧ dr = dr ∧ List.set (upTo (relTo (rwTo c m)) i cr) (Int.toNat (↑i : Int)) (Rel.mk (List.getD (rwTo c m) (Int.toNat (List.getD (upTo (relTo (rwTo c m)) i cr) (Int.toNat (↑i : Int)) (RT.dflt RT.rel)).at_) (RT.dflt RT.i64)) (List.getD (upTo (relTo (rwTo c m)) i cr) (Int.toNat (↑i : Int)) (RT.dflt RT.rel)).kind (List.getD (upTo (relTo (rwTo c m)) i cr) (Int.toNat (↑i : Int)) (RT.dflt RT.rel)).sym (List.getD (upTo (relTo (rwTo c m)) i cr) (Int.toNat (↑i : Int)) (RT.dflt RT.rel)).add) = upTo (relTo (rwTo c m)) (i + (1 : Nat)) cr ∧ sy = sy)))) ∧ (decide ((↑i : Int) < (↑(List.length cr) : Int)) = false → Nat.beq (2 : Nat) (2 : Nat) = true ∧ rwTo c m = rwTo c m ∧ d = d ∧ rwC c m (List.length c) = rwC c m (List.length c) ∧ rwM c m (List.length c) = rwM c m (List.length c) ∧ dr = dr ∧ upTo (relTo (rwTo c m)) i cr = List.map (relTo (rwTo c m)) cr ∧ sy = sy)) := by kernel_rfl
set_option maxHeartbeats 4000000 in
theorem lrwR (d c m : List Int) (dr cr : List Rel) (sy : List Sm) {W : World} {R own0 : Nat → Prop} {ρ0 : Nat → Option Value} (hown : HownOk (env (G7 ++ rest) [(18, kSites), (77, kWord), (29, kCloneO)]) own0 ρ0) : LOk Tryd.prog (env (G7 ++ rest) [(18, kSites), (77, kWord), (29, kCloneO)]) (ctx ea has) (G7 ++ rest) W R own0 ρ0 (loopN (bodyOf Tryd.f33) 1) (LrwR d c m dr cr sy) := by
  refine loop1_ok (env_ok (con := [(18, kSites), (77, kWord), (29, kCloneO)]) ⟨cSites, cWord, cCloneO, trivial⟩) hown (ls := fun i => []) (fun i => noLoops (by kernel_rfl)) (fun hm i hi hj => (brwR rest d c m dr cr sy i).mpr ?_) 0 (fun hm => by first | exact Nat.zero_le _ | omega) (fun hm => trivial)
  have d0 : RT.i64.dflt = (0 : Int) := rfl
  simp only [Int.toNat_natCast, eq_self, true_and, and_true, d0]
  obtain ⟨v1, v2, v3, v4, v5, v6, _⟩ := valid_size hm
  have hl := upTo_len (relTo (rwTo c m)) i cr
  refine ⟨fun h => ?_, fun h => ?_⟩
  · have h := of_decide_eq_true h
    have hlt : i < cr.length := by omega
    obtain ⟨g1, g2⟩ := valid_cr hm hlt
    have hT := rwTo_len c m
    have hs := upTo_set (relTo (rwTo c m)) RT.rel.dflt hlt
    rw [upTo_get (relTo (rwTo c m)) RT.rel.dflt hlt]
    exact ⟨by omega, fun _ => ⟨by omega, fun _ => ⟨by omega, fun _ => ⟨hlt, by omega, by omega, hs⟩⟩⟩⟩
  · have h := of_decide_eq_false h
    have e : i = cr.length := by omega
    subst e
    exact ⟨rfl, upTo_all _ _⟩
def HrwS (d c m : List Int) (dr cr : List Rel) (sy : List Sm) (i : Nat) : SState := { fr := [(2, .ptr 1 0), (9, .ptr 2 0), (10, .own 3), (123, .int .i64 (.full sy.length)), (124, .int .i64 (.sym i 0 1000000))], hp := [(1, some (.cells [.nilslice, .nilslice, .nilslice, .nilslice, .nilslice, .nilslice])), (2, some (.cells [.own 4, .own 5, .own 6, .own 7, .own 8, .own 9])), (3, some (.recs .i64 (rwTo c m))), (4, some (.recs .u32 d)), (5, some (.recs .u32 (rwC c m c.length))), (6, some (.recs .u8 (rwM c m c.length))), (7, some (.recs .rel dr)), (8, some (.recs .rel (cr.map (relTo (rwTo c m))))), (9, some (.recs .sym (upTo (symTo (rwTo c m)) i sy)))], next := 10, sz := 154 }
def XrwS (d c m : List Int) (dr cr : List Rel) (sy : List Sm) : SState := { fr := [(2, .ptr 1 0), (9, .ptr 2 0), (10, .own 3)], hp := [(1, some (.cells [.nilslice, .nilslice, .nilslice, .nilslice, .nilslice, .nilslice])), (2, some (.cells [.own 4, .own 5, .own 6, .own 7, .own 8, .own 9])), (3, some (.recs .i64 (rwTo c m))), (4, some (.recs .u32 d)), (5, some (.recs .u32 (rwC c m c.length))), (6, some (.recs .u8 (rwM c m c.length))), (7, some (.recs .rel dr)), (8, some (.recs .rel (cr.map (relTo (rwTo c m))))), (9, some (.recs .sym (sy.map (symTo (rwTo c m)))))], next := 10, sz := 154 }
def LrwS (d c m : List Int) (dr cr : List Rel) (sy : List Sm) : LSum := ⟨HrwS d c m dr cr sy 0, fun k => k (.exit 4) (XrwS d c m dr cr sy), (validE d c m dr cr sy).isErr = false⟩
theorem brwS (rest : List (Nat × SVal)) (d c m : List Int) (dr cr : List Rel) (sy : List Sm) (i : Nat) : (Tr.sat (rnd1 (env (G7 ++ rest) [(18, kSites), (77, kWord), (29, kCloneO)]) (fun _ => True) (sy.length) (HrwS d c m dr cr sy) 4 (XrwS d c m dr cr sy) i) (run (env (G7 ++ rest) [(18, kSites), (77, kWord), (29, kCloneO)]) [] (loopN (bodyOf Tryd.f33) 2) (HrwS d c m dr cr sy i) .leaf)) = (
  (decide ((↑i : Int) < (↑(List.length sy) : Int)) = true → ((0 : Int) ≤ (↑i : Int) ∧ (↑i : Int) < (↑(List.length (upTo (symTo (rwTo c m)) i sy)) : Int)) ∧ ((0 : Int) ≤ (↑i : Int) ∧ (↑i : Int) < (↑(List.length (upTo (symTo (rwTo c m)) i sy)) : Int) → (decide ((List.getD (upTo (symTo (rwTo c m)) i sy) (Int.toNat (↑i : Int)) (RT.dflt RT.sym)).in_ = (2 : Int)) = true → ((0 : Int) ≤ (List.getD (upTo (symTo (rwTo c m)) i sy) (Int.toNat (↑i : Int)) (RT.dflt RT.sym)).value ∧ (List.getD (upTo (symTo (rwTo c m)) i sy) (Int.toNat (↑i : Int)) (RT.dflt RT.sym)).value < (↑(List.length (rwTo c m)) : Int)) ∧ ((0 : Int) ≤ (List.getD (upTo (symTo (rwTo c m)) i sy) (Int.toNat (↑i : Int)) (RT.dflt RT.sym)).value ∧ (List.getD (upTo (symTo (rwTo c m)) i sy) (Int.toNat (↑i : Int)) (RT.dflt RT.sym)).value < (↑(List.length (rwTo c m)) : Int) → i < List.length sy ∧ True ∧ (↑(List.length sy) : Int) = (↑(List.length sy) : Int) ∧ (↑i : Int) + (1 : Int) = (↑(i + (1 : Nat)) : Int) ∧ ((0 : Int) ≤ (↑(i + (1 : Nat)) : Int) ∧ (↑(i + (1 : Nat)) : Int) ≤ (1000000 : Int)) ∧ rwTo c m = rwTo c m ∧ d = d ∧ rwC c m (List.length c) = rwC c m (List.length c) ∧ rwM c m (List.length c) = rwM c m (List.length c) ∧ dr = dr ∧ List.map (relTo (rwTo c m)) cr = List.map (relTo (rwTo c m)) cr ∧ List.set (upTo (symTo (rwTo c m)) i sy) (Int.toNat (↑i : Int)) (Sm.mk (List.getD (upTo (symTo (rwTo c m)) i sy) (Int.toNat (↑i : Int)) (RT.dflt RT.sym)).name (List.getD (upTo (symTo (rwTo c m)) i sy) (Int.toNat (↑i : Int)) (RT.dflt RT.sym)).in_ (List.getD (rwTo c m) (Int.toNat (List.getD (upTo (symTo (rwTo c m)) i sy) (Int.toNat (↑i : Int)) (RT.dflt RT.sym)).value) (RT.dflt RT.i64)) (List.getD (upTo (symTo (rwTo c m)) i sy) (Int.toNat (↑i : Int)) (RT.dflt RT.sym)).global) = upTo (symTo (rwTo c m)) (i + (1 : Nat)) sy)) ∧ (decide ((List.getD (upTo (symTo (rwTo c m)) i sy) (Int.toNat (↑i : Int)) (RT.dflt RT.sym)).in_ = (2 : Int)) = false → i < List.length sy ∧ True ∧ (↑(List.length sy) : Int) = (↑(List.length sy) : Int) ∧ (↑i : Int) + (1 : Int) = (↑(i + (1 : Nat)) : Int) ∧ ((0 : Int) ≤ (↑(i + (1 : Nat)) : Int) ∧ (↑(i + (1 : Nat)) : Int) ≤ (1000000 : Int)) ∧ rwTo c m = rwTo c m ∧ d = d ∧ rwC c m (List.length c) = rwC c m (List.length c) ∧ rwM c m (List.length c) = rwM c m (List.length c) ∧ dr = dr ∧ List.map (relTo (rwTo c m)) cr = List.map (relTo (rwTo c m)) cr ∧ upTo (symTo (rwTo c m)) i sy = upTo (symTo (rwTo c m)) (i + (1 : Nat)) sy))) ∧ (decide ((↑i : Int) < (↑(List.length sy) : Int)) = false → Nat.beq (4 : Nat) (4 : Nat) = true ∧ rwTo c m = rwTo c m ∧ d = d ∧ rwC c m (List.length c) = rwC c m (List.length c) ∧ rwM c m (List.length c) = rwM c m (List.length c) ∧ dr = dr ∧ List.map (relTo (rwTo c m)) cr = List.map (relTo (rwTo c m)) cr ∧ upTo (symTo (rwTo c m)) i sy = List.map (symTo (rwTo c m)) sy)) := by kernel_rfl
set_option maxHeartbeats 4000000 in
theorem lrwS (d c m : List Int) (dr cr : List Rel) (sy : List Sm) {W : World} {R own0 : Nat → Prop} {ρ0 : Nat → Option Value} (hown : HownOk (env (G7 ++ rest) [(18, kSites), (77, kWord), (29, kCloneO)]) own0 ρ0) : LOk Tryd.prog (env (G7 ++ rest) [(18, kSites), (77, kWord), (29, kCloneO)]) (ctx ea has) (G7 ++ rest) W R own0 ρ0 (loopN (bodyOf Tryd.f33) 2) (LrwS d c m dr cr sy) := by
  refine loop1_ok (env_ok (con := [(18, kSites), (77, kWord), (29, kCloneO)]) ⟨cSites, cWord, cCloneO, trivial⟩) hown (ls := fun i => []) (fun i => noLoops (by kernel_rfl)) (fun hm i hi hj => (brwS rest d c m dr cr sy i).mpr ?_) 0 (fun hm => by first | exact Nat.zero_le _ | omega) (fun hm => trivial)
  have d0 : RT.i64.dflt = (0 : Int) := rfl
  simp only [Int.toNat_natCast, eq_self, true_and, and_true, d0]
  obtain ⟨v1, v2, v3, v4, v5, v6, _⟩ := valid_size hm
  have hl := upTo_len (symTo (rwTo c m)) i sy
  refine ⟨fun h => ?_, fun h => ?_⟩
  · have h := of_decide_eq_true h
    have hlt : i < sy.length := by omega
    have hT := rwTo_len c m
    have hs := upTo_set (symTo (rwTo c m)) RT.sym.dflt hlt
    have hc := @valid_code _ _ _ _ _ _ hm i hlt
    simp only [upTo_get (symTo (rwTo c m)) RT.sym.dflt hlt]
    refine ⟨by omega, fun _ => ⟨fun g => ?_, fun g => ?_⟩⟩
    · have g := of_decide_eq_true g
      have := hc g
      rw [symTo, if_pos g] at hs
      exact ⟨by omega, fun _ => ⟨hlt, by omega, by omega, hs⟩⟩
    · have g := of_decide_eq_false g
      rw [symTo, if_neg g] at hs
      refine ⟨hlt, by omega, by omega, ?_⟩
      rw [← hs]
      refine (List.ext_getElem? fun j => ?_)
      rw [List.getElem?_set]
      split
      · rename_i e
        subst e
        rw [if_pos (by rw [hl]; exact hlt)]
        have hg := upTo_get (symTo (rwTo c m)) RT.sym.dflt hlt
        rw [List.getD_eq_getElem?_getD, List.getElem?_eq_getElem (by rw [hl]; exact hlt), Option.getD_some] at hg
        rw [List.getElem?_eq_getElem (by rw [hl]; exact hlt), hg]
      · rfl
  · have h := of_decide_eq_false h
    have e : i = sy.length := by omega
    subst e
    exact ⟨rfl, upTo_all _ _⟩
def doE (d c m : List Int) (dr cr : List Rel) (sy : List Sm) : FErr :=
  if (validE d c m dr cr sy).isErr = true then validE d c m dr cr sy else if 2048 < c.length + (sitesM d c m dr cr sy).length then .bare 104 else .fine
def ifOk {α : Type} (e : FErr) (l : List α) : List α := if e.isErr = true then [] else l
def doC (e : FErr) (c m : List Int) : List Int := ifOk e (rwC c m c.length)
def doM (e : FErr) (c m : List Int) : List Int := ifOk e (rwM c m c.length)
def doR (e : FErr) (c m : List Int) (cr : List Rel) : List Rel := ifOk e (cr.map (relTo (rwTo c m)))
def doS (e : FErr) (c m : List Int) (sy : List Sm) : List Sm := ifOk e (sy.map (symTo (rwTo c m)))
def doT (e : FErr) (c m : List Int) : List Int := ifOk e (rwTo c m ++ [((rwC c m c.length).length : Int)])
def hcOk : Int × Bool := (wordW 96 0 0 0 0, wordOk 96 0 0 0 0)
def kDo : List SVal → Nat → Acc ORes := fun a n => match a with | [.agg [.ro .u32 d, .ro .u32 c, .ro .u8 m, .ro .rel dr, .ro .rel cr, .ro .sym sy]] => .ret ({ v := .tuple [.agg [.ro .u32 (ifOk (doE d c m dr cr sy) d), .ro .u32 (doC (doE d c m dr cr sy) c m), .ro .u8 (doM (doE d c m dr cr sy) c m), .ro .rel (ifOk (doE d c m dr cr sy) dr), .ro .rel (doR (doE d c m dr cr sy) c m cr), .ro .sym (doS (doE d c m dr cr sy) c m sy)], .ro .i64 (doT (doE d c m dr cr sy) c m), .err (doE d c m dr cr sy)] }) | _ => .fail "Do"
theorem argDo (d c m : List Int) (dr cr : List Rel) (sy : List Sm) : (all (subL 134 none' [] deep [.agg [.ro .u32 d, .ro .u32 c, .ro .u8 m, .ro .rel dr, .ro .rel cr, .ro .sym sy]] [.agg [.ro .u32 d, .ro .u32 c, .ro .u8 m, .ro .rel dr, .ro .rel cr, .ro .sym sy]])) = (
  d = d ∧ c = c ∧ m = m ∧ dr = dr ∧ cr = cr ∧ sy = sy) := by kernel_rfl
theorem runDo (rest : List (Nat × SVal)) (d c m : List Int) (dr cr : List Rel) (sy : List Sm) : (Tr.sat (plainQ (.tuple [.agg [.ro .u32 (ifOk (doE d c m dr cr sy) d), .ro .u32 (doC (doE d c m dr cr sy) c m), .ro .u8 (doM (doE d c m dr cr sy) c m), .ro .rel (ifOk (doE d c m dr cr sy) dr), .ro .rel (doR (doE d c m dr cr sy) c m cr), .ro .sym (doS (doE d c m dr cr sy) c m sy)], .ro .i64 (doT (doE d c m dr cr sy) c m), .err (doE d c m dr cr sy)])) (run (env (G7 ++ rest) [(18, kSites), (77, kWord), (29, kCloneO)]) [(11, LrwA d c m dr cr sy), (20, LrwR d c m dr cr sy), (25, LrwS d c m dr cr sy)] (bodyOf Tryd.f33) (start [.agg [.ro .u32 d, .ro .u32 c, .ro .u8 m, .ro .rel dr, .ro .rel cr, .ro .sym sy]] 154) (ends (env (G7 ++ rest) [(18, kSites), (77, kWord), (29, kCloneO)]) Tryd.f33.results.toList))) = (
  ((!!FErr.isErr (validE d c m dr cr sy)) = true → ifOk (doE d c m dr cr sy) d = @List.nil (RT.ty RT.u32) ∧ doC (doE d c m dr cr sy) c m = @List.nil (RT.ty RT.u32) ∧ doM (doE d c m dr cr sy) c m = @List.nil (RT.ty RT.u8) ∧ ifOk (doE d c m dr cr sy) dr = @List.nil (RT.ty RT.rel) ∧ doR (doE d c m dr cr sy) c m cr = @List.nil (RT.ty RT.rel) ∧ doS (doE d c m dr cr sy) c m sy = @List.nil (RT.ty RT.sym) ∧ @List.nil (RT.ty RT.i64) = doT (doE d c m dr cr sy) c m ∧ validE d c m dr cr sy = doE d c m dr cr sy) ∧ ((!!FErr.isErr (validE d c m dr cr sy)) = false → (decide ((2048 : Int) < IntKind.wrap IntKind.i64 ((↑(List.length c) : Int) + (↑(List.length (sitesM d c m dr cr sy)) : Int))) = true → ifOk (doE d c m dr cr sy) d = @List.nil (RT.ty RT.u32) ∧ doC (doE d c m dr cr sy) c m = @List.nil (RT.ty RT.u32) ∧ doM (doE d c m dr cr sy) c m = @List.nil (RT.ty RT.u8) ∧ ifOk (doE d c m dr cr sy) dr = @List.nil (RT.ty RT.rel) ∧ doR (doE d c m dr cr sy) c m cr = @List.nil (RT.ty RT.rel) ∧ doS (doE d c m dr cr sy) c m sy = @List.nil (RT.ty RT.sym) ∧ @List.nil (RT.ty RT.i64) = doT (doE d c m dr cr sy) c m ∧ FErr.bare (104 : Int) = doE d c m dr cr sy) ∧ (decide ((2048 : Int) < IntKind.wrap IntKind.i64 ((↑(List.length c) : Int) + (↑(List.length (sitesM d c m dr cr sy)) : Int))) = false → lenOb d c m dr cr sy ∧ (lenOb d c m dr cr sy → (FErr.isErr (validE d c m dr cr sy) = false ∧ sitesM d c m dr cr sy = sitesD d c m dr cr sy (0 : Nat) ∧ wordW (96 : Int) (0 : Int) (0 : Int) (0 : Int) (0 : Int) = hcW ∧ c = c ∧ (↑(List.length c) : Int) = (↑(List.length c) : Int) ∧ (0 : Int) = (↑(0 : Nat) : Int) ∧ d = d ∧ c = c ∧ m = m ∧ dr = dr ∧ cr = cr ∧ sy = sy ∧ @List.nil (RT.ty RT.i64) = rwT c m (0 : Nat) ∧ d = d ∧ rwC c m (0 : Nat) = @List.nil (RT.ty RT.u32) ∧ rwM c m (0 : Nat) = @List.nil (RT.ty RT.u8) ∧ dr = dr ∧ cr = cr ∧ sy = sy) ∧ (FErr.isErr (validE d c m dr cr sy) = false ∧ sitesM d c m dr cr sy = sitesD d c m dr cr sy (0 : Nat) ∧ wordW (96 : Int) (0 : Int) (0 : Int) (0 : Int) (0 : Int) = hcW ∧ c = c ∧ (↑(List.length c) : Int) = (↑(List.length c) : Int) ∧ (0 : Int) = (↑(0 : Nat) : Int) ∧ d = d ∧ c = c ∧ m = m ∧ dr = dr ∧ cr = cr ∧ sy = sy ∧ @List.nil (RT.ty RT.i64) = rwT c m (0 : Nat) ∧ d = d ∧ rwC c m (0 : Nat) = @List.nil (RT.ty RT.u32) ∧ rwM c m (0 : Nat) = @List.nil (RT.ty RT.u8) ∧ dr = dr ∧ cr = cr ∧ sy = sy → (FErr.isErr (validE d c m dr cr sy) = false ∧ (↑(List.length cr) : Int) = (↑(List.length cr) : Int) ∧ (0 : Int) = (↑(0 : Nat) : Int) ∧ rwTo c m = rwTo c m ∧ d = d ∧ rwC c m (List.length c) = rwC c m (List.length c) ∧ rwM c m (List.length c) = rwM c m (List.length c) ∧ dr = dr ∧ cr = upTo (relTo (rwTo c m)) (0 : Nat) cr ∧ sy = sy) ∧ (FErr.isErr (validE d c m dr cr sy) = false ∧ (↑(List.length cr) : Int) = (↑(List.length cr) : Int) ∧ (0 : Int) = (↑(0 : Nat) : Int) ∧ rwTo c m = rwTo c m ∧ d = d ∧ rwC c m (List.length c) = rwC c m (List.length c) ∧ rwM c m (List.length c) = rwM c m (List.length c) ∧ dr = dr ∧ cr = upTo (relTo (rwTo c m)) (0 : Nat) cr ∧ sy = sy → (FErr.isErr (validE d c m dr cr sy) = false ∧ (↑(List.length sy) : Int) = (↑(List.length sy) : Int) ∧ (0 : Int) = (↑(0 : Nat) : Int) ∧ rwTo c m = rwTo c m ∧ d = d ∧ rwC c m (List.length c) = rwC c m (List.length c) ∧ rwM c m (List.length c) = rwM c m (List.length c) ∧ dr = dr ∧ List.map (relTo (rwTo c m)) cr = List.map (relTo (rwTo c m)) cr ∧ sy = upTo (symTo (rwTo c m)) (0 : Nat) sy) ∧ (FErr.isErr (validE d c m dr cr sy) = false ∧ (↑(List.length sy) : Int) = (↑(List.length sy) : Int) ∧ (0 : Int) = (↑(0 : Nat) : Int) ∧ rwTo c m = rwTo c m ∧ d = d ∧ rwC c m (List.length c) = rwC c m (List.length c) ∧ rwM c m (List.length c) = rwM c m (List.length c) ∧ dr = dr ∧ List.map (relTo (rwTo c m)) cr = List.map (relTo (rwTo c m)) cr ∧ sy = upTo (symTo (rwTo c m)) (0 : Nat) sy → List.length (rwTo c m) + List.length [(↑(List.length (rwC c m (List.length c))) : Int)] ≤ (137438953472 : Nat) ∧ (List.length (rwTo c m) + List.length [(↑(List.length (rwC c m (List.length c))) : Int)] ≤ (137438953472 : Nat) → d = ifOk (doE d c m dr cr sy) d ∧ rwC c m (List.length c) = doC (doE d c m dr cr sy) c m ∧ rwM c m (List.length c) = doM (doE d c m dr cr sy) c m ∧ dr = ifOk (doE d c m dr cr sy) dr ∧ List.map (relTo (rwTo c m)) cr = doR (doE d c m dr cr sy) c m cr ∧ List.map (symTo (rwTo c m)) sy = doS (doE d c m dr cr sy) c m sy ∧ rwTo c m ++ [(↑(List.length (rwC c m (List.length c))) : Int)] = doT (doE d c m dr cr sy) c m ∧ FErr.fine = doE d c m dr cr sy)))))))) := by kernel_rfl
set_option maxHeartbeats 4000000 in
theorem cDo : Con ea has (G7 ++ rest) 33 kDo := by
  refine plain_mk Tryd.func33 154 (con := [(18, kSites), (77, kWord), (29, kCloneO)]) ⟨cSites, cWord, cCloneO, trivial⟩ (fun hA hr hv => ?_) (by kernel_rfl) (by kernel_rfl) Tryd.ntmps33
  unfold kDo at hr; split at hr
  · rename_i d c m dr cr sy
    have := ret_ok hr; subst this
    refine ⟨_, [(11, LrwA d c m dr cr sy), (20, LrwR d c m dr cr sy), (25, LrwS d c m dr cr sy)], rfl, rfl, (argDo d c m dr cr sy).mpr (by simp), rfl, (fun W R ρ0 own0 hown => hl3 (by kernel_rfl) (by kernel_rfl) (lrwA d c m dr cr sy hown) (by kernel_rfl) (lrwR d c m dr cr sy hown) (by kernel_rfl) (lrwS d c m dr cr sy hown)), (runDo rest d c m dr cr sy).mpr ?_⟩
    clear hr
    simp only [eq_self, true_and, and_true]
    have hE : doE d c m dr cr sy = _ := doE.eq_1 d c m dr cr sy
    generalize doE d c m dr cr sy = E at *
    refine ⟨fun h => ?_, fun h => ?_⟩
    · have h : (validE d c m dr cr sy).isErr = true := by simpa using h
      rw [if_pos h] at hE
      rw [hE]
      simp [ifOk, doC, doM, doR, doS, doT, h]
    · have h : (validE d c m dr cr sy).isErr = false := by simpa using h
      obtain ⟨v1, v2, v3, v4, v5, v6, _⟩ := valid_size h
      have hs : (sitesM d c m dr cr sy).length ≤ c.length := by
        unfold sitesM; rw [if_neg (by rw [h]; simp)]
        have := ahead_le c m m.length
        unfold ahead at this; omega
      have w1 : IntKind.i64.wrap ((c.length : Int) + (sitesM d c m dr cr sy).length) = c.length + (sitesM d c m dr cr sy).length := by rw [IntKind.wrap_i64]; omega
      rw [w1]
      rw [if_neg (by rw [h]; simp)] at hE
      refine ⟨fun g => ?_, fun g => ?_⟩
      · have g := of_decide_eq_true g
        rw [if_pos (by omega)] at hE
        rw [hE]
        simp [ifOk, doC, doM, doR, doS, doT, FErr.isErr]
      · have g := of_decide_eq_false g
        rw [if_neg (by omega)] at hE
        rw [hE]
        have hT := rwTo_len c m
        refine ⟨⟨by omega, by omega, by omega, by omega, by omega, by omega⟩, fun _ => ⟨⟨h, rfl, rfl, rfl, rfl, rfl, rfl⟩, fun _ => ⟨⟨h, rfl, (upTo_zero _ _).symm⟩, fun _ => ⟨⟨h, rfl, (upTo_zero _ _).symm⟩, fun _ => ⟨by rw [hT]; simp only [List.length_singleton]; omega, fun _ => ⟨rfl, rfl, rfl, rfl, rfl, rfl, rfl, rfl⟩⟩⟩⟩⟩⟩
  · cases hr
def kNeeds : List SVal → Nat → Acc ORes := fun a n => match a with | [.agg [.ro .u32 d, .ro .u32 c, .ro .u8 m, .ro .rel dr, .ro .rel cr, .ro .sym sy]] => .ret ({ v := .tuple [.int .i64 (.full (if (validE d c m dr cr sy).isErr = true then 0 else (c.length : Int) + (sitesM d c m dr cr sy).length)), .err (validE d c m dr cr sy)] }) | _ => .fail "Needs"
theorem argNeeds (d c m : List Int) (dr cr : List Rel) (sy : List Sm) : (all (subL 134 none' [] deep [.agg [.ro .u32 d, .ro .u32 c, .ro .u8 m, .ro .rel dr, .ro .rel cr, .ro .sym sy]] [.agg [.ro .u32 d, .ro .u32 c, .ro .u8 m, .ro .rel dr, .ro .rel cr, .ro .sym sy]])) = (
  d = d ∧ c = c ∧ m = m ∧ dr = dr ∧ cr = cr ∧ sy = sy) := by kernel_rfl
theorem runNeeds (rest : List (Nat × SVal)) (d c m : List Int) (dr cr : List Rel) (sy : List Sm) : (Tr.sat (plainQ (.tuple [.int .i64 (.full (if (validE d c m dr cr sy).isErr = true then 0 else (c.length : Int) + (sitesM d c m dr cr sy).length)), .err (validE d c m dr cr sy)])) (run (env (G7 ++ rest) [(18, kSites)]) [] (bodyOf Tryd.f34) (start [.agg [.ro .u32 d, .ro .u32 c, .ro .u8 m, .ro .rel dr, .ro .rel cr, .ro .sym sy]] 20) (ends (env (G7 ++ rest) [(18, kSites)]) Tryd.f34.results.toList))) = (
  ((!!FErr.isErr (validE d c m dr cr sy)) = true → ((0 : Int) = if FErr.isErr (validE d c m dr cr sy) = true then (0 : Int) else (↑(List.length c) : Int) + (↑(List.length (sitesM d c m dr cr sy)) : Int)) ∧ validE d c m dr cr sy = validE d c m dr cr sy) ∧ ((!!FErr.isErr (validE d c m dr cr sy)) = false → (IntKind.wrap IntKind.i64 ((↑(List.length c) : Int) + (↑(List.length (sitesM d c m dr cr sy)) : Int)) = if FErr.isErr (validE d c m dr cr sy) = true then (0 : Int) else (↑(List.length c) : Int) + (↑(List.length (sitesM d c m dr cr sy)) : Int)) ∧ FErr.fine = validE d c m dr cr sy)) := by kernel_rfl
set_option maxHeartbeats 4000000 in
theorem cNeeds : Con ea has (G7 ++ rest) 34 kNeeds := by
  refine plain_mk Tryd.func34 20 (con := [(18, kSites)]) ⟨cSites, trivial⟩ (fun hA hr hv => ?_) (by kernel_rfl) (by kernel_rfl) Tryd.ntmps34
  unfold kNeeds at hr; split at hr
  · rename_i d c m dr cr sy
    have := ret_ok hr; subst this
    refine ⟨_, [], rfl, rfl, (argNeeds d c m dr cr sy).mpr (by simp), rfl, (fun W R ρ0 own0 hown => noLoops (by kernel_rfl)), (runNeeds rest d c m dr cr sy).mpr ?_⟩
    clear hr
    refine ⟨fun h => ?_, fun h => ?_⟩
    · have h : (validE d c m dr cr sy).isErr = true := by simpa using h
      rw [if_pos h]; exact ⟨rfl, rfl⟩
    · have h : (validE d c m dr cr sy).isErr = false := by simpa using h
      obtain ⟨v1, v2, v3, v4, v5, v6, _⟩ := valid_size h
      have hs : (sitesM d c m dr cr sy).length ≤ c.length := by
        unfold sitesM; rw [if_neg (by rw [h]; simp)]
        have := ahead_le c m m.length
        unfold ahead at this; omega
      rw [if_neg (by rw [h]; simp), IntKind.wrap_i64]
      exact ⟨by omega, (fine_of h).symm⟩
  · cases hr
def unmark (w : Int) : Int := bits .andNot .u32 w markI
def backB (w : Int) : Bool := !decide (bits .and .u32 w markI = 0) && ofOk (unmark w) && (decide (isaClass (ofF (unmark w) 0).op = 2) || decide (isaClass (ofF (unmark w) 0).op = 3))
def backI (w : Int) : In5 := if backB w = true then ofF (unmark w) 0 else ⟨0, 0, 0, 0, 0⟩
def kBack : List SVal → Nat → Acc ORes := fun a n => match a with | [.int .u32 w] => .ret ({ v := .tuple [.agg (backI w.val).enc, .bool (.sym (backB w.val))] }) | _ => .fail "Back"
theorem argBack (w : SI) : (all (subL 134 none' [] deep [.int .u32 w] [.int .u32 (.full w.val)])) = (
  SI.val w = SI.val w) := by kernel_rfl
theorem runBack (rest : List (Nat × SVal)) (w : SI) : (Tr.sat (plainQ (.tuple [.agg (backI w.val).enc, .bool (.sym (backB w.val))])) (run (env (G7 ++ rest) [(79, kOf), (59, kTables), (60, kClass)]) [] (bodyOf Tryd.f38) (start [.int .u32 (.full w.val)] 34) (ends (env (G7 ++ rest) [(79, kOf), (59, kTables), (60, kClass)]) Tryd.f38.results.toList))) = (
  ((decide (bits BinOp.and IntKind.u32 (SI.val w) (2147483648 : Int) = (0 : Int)) || !ofOk (bits BinOp.andNot IntKind.u32 (SI.val w) (2147483648 : Int)) || !decide (isaClass (ofF (bits BinOp.andNot IntKind.u32 (SI.val w) (2147483648 : Int)) (0 : Int)).op = (2 : Int)) && !decide (isaClass (ofF (bits BinOp.andNot IntKind.u32 (SI.val w) (2147483648 : Int)) (0 : Int)).op = (3 : Int))) = true → (0 : Int) = (backI (SI.val w)).op ∧ (0 : Int) = (backI (SI.val w)).a ∧ (0 : Int) = (backI (SI.val w)).b ∧ (0 : Int) = (backI (SI.val w)).c ∧ (0 : Int) = (backI (SI.val w)).imm ∧ false = backB (SI.val w)) ∧ ((decide (bits BinOp.and IntKind.u32 (SI.val w) (2147483648 : Int) = (0 : Int)) || !ofOk (bits BinOp.andNot IntKind.u32 (SI.val w) (2147483648 : Int)) || !decide (isaClass (ofF (bits BinOp.andNot IntKind.u32 (SI.val w) (2147483648 : Int)) (0 : Int)).op = (2 : Int)) && !decide (isaClass (ofF (bits BinOp.andNot IntKind.u32 (SI.val w) (2147483648 : Int)) (0 : Int)).op = (3 : Int))) = false → (ofF (bits BinOp.andNot IntKind.u32 (SI.val w) (2147483648 : Int)) (0 : Int)).op = (backI (SI.val w)).op ∧ (ofF (bits BinOp.andNot IntKind.u32 (SI.val w) (2147483648 : Int)) (0 : Int)).a = (backI (SI.val w)).a ∧ (ofF (bits BinOp.andNot IntKind.u32 (SI.val w) (2147483648 : Int)) (0 : Int)).b = (backI (SI.val w)).b ∧ (ofF (bits BinOp.andNot IntKind.u32 (SI.val w) (2147483648 : Int)) (0 : Int)).c = (backI (SI.val w)).c ∧ (ofF (bits BinOp.andNot IntKind.u32 (SI.val w) (2147483648 : Int)) (0 : Int)).imm = (backI (SI.val w)).imm ∧ true = backB (SI.val w))) := by kernel_rfl
set_option maxHeartbeats 4000000 in
theorem cBack : Con ea has (G7 ++ rest) 38 kBack := by
  refine plain_mk Tryd.func38 34 (con := [(79, kOf), (59, kTables), (60, kClass)]) ⟨cOf, cTables, cClass, trivial⟩ (fun hA hr hv => ?_) (by kernel_rfl) (by kernel_rfl) Tryd.ntmps38
  unfold kBack at hr; split at hr
  · rename_i w
    have := ret_ok hr; subst this
    refine ⟨_, [], rfl, rfl, (argBack w).mpr (by simp), rfl, (fun W R ρ0 own0 hown => noLoops (by kernel_rfl)), (runBack rest w).mpr ?_⟩
    clear hr
    have hb : backB w.val = !(decide (bits BinOp.and IntKind.u32 w.val 2147483648 = 0) || !ofOk (bits BinOp.andNot IntKind.u32 w.val 2147483648) || !decide (isaClass (ofF (bits BinOp.andNot IntKind.u32 w.val 2147483648) 0).op = 2) && !decide (isaClass (ofF (bits BinOp.andNot IntKind.u32 w.val 2147483648) 0).op = 3)) := by
      unfold backB unmark
      simp [Bool.not_or, Bool.not_and]
    refine ⟨fun h => ?_, fun h => ?_⟩
    · rw [h] at hb
      unfold backI; rw [hb]; exact ⟨rfl, rfl, rfl, rfl, rfl, rfl⟩
    · rw [h] at hb
      unfold backI; rw [hb]; exact ⟨rfl, rfl, rfl, rfl, rfl, rfl⟩
  · cases hr
end
end Go.Proofs.YtbdfibaljoedpaaDoor

