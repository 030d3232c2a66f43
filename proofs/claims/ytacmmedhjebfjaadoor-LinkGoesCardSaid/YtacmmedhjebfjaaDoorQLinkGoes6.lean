/- Contracts that the proofs use. -/
import Derived.Test.YtacmmedhjebfjaaDoorQLinkGoes5
import Derived.Test.YtacmmedhjebfjaaDoorRows
set_option linter.unusedVariables false
set_option linter.unusedSimpArgs false
namespace Go.Proofs.YtacmmedhjebfjaaDoor
open Go.RowKit Go.Sy Go.Fac
theorem rlxN_br (its : List itT.ty) : ∀ k j, (rlxN its k).getD j false = true → itB its j = true
  | 0, j, h => by
    rw [rlxN, List.getD_eq_getElem?_getD, List.getElem?_replicate] at h
    split at h <;> cases h
  | k + 1, j, h => by
    by_cases hj : j < its.length
    · rw [rlxN, rndU_at its _ (rlxN_len its k) j hj _ hj, Bool.or_eq_true] at h
      rcases h with h | h
      · exact rlxN_br its k j h
      · unfold goesL at h; simp only [Bool.and_eq_true] at h; exact h.1.1
    · rw [getD_none _ _ (by rw [rlxN_len]; omega)] at h; cases h
theorem lo_br {l : List Ob} {g : Glb} {n : Nat} (h : (loF l g).getD n false = true) : itB (itF l g) n = true := rlxN_br _ _ _ h
theorem short_two {op : Int} (h : shortM op = true) : isaTwo op = false := by
  rcases short_op h with h | h | h <;> rw [h] <;> rfl
theorem ItAt.one {l : List Ob} {g : Glb} (G : NmG l g) {n o w : Nat} (I : ItAt l n o w) (hb : itB (itF l g) n = true) : itS (itF l g) n = 1 := by
  obtain ⟨k, _, _, _, _, _, _, k7, k8⟩ := I.br G hb
  rw [(I.words G).1]
  unfold szW twoB
  rw [k7, short_two k8]; rfl
def ckS (l : List Ob) (n : Nat) (p : Int) : List Int := if (obN l (itO l n).1.toNat).map.getD (itO l n).2.toNat 0 = 1 then [p] else []
def wdL (l : List Ob) (g : Glb) (o a : Int) : Nat → List Int
  | 0 => []
  | i + 1 => wdL l g o a i ++ [wdV l g o (a + i)]
def wdP (l : List Ob) (g : Glb) (o a : Int) (p : Int) : Nat → List Int
  | 0 => []
  | i + 1 => wdP l g o a p i ++ if wdC l g o (a + i) = true then [p + i] else []
def ckC (l : List Ob) (g : Glb) (n : Nat) : List Int :=
  if itB (itF l g) n = false then wdL l g (itO l n).1 (itO l n).2 (itS (itF l g) n).toNat
  else if (loF l g).getD n false = true then [wordW ((itI l n).op - 16 + 19) (itI l n).a (itI l n).b 0 (adrL l g (itTo l g n)), adrL l g (itTo l g n)]
  else [wordW (itI l n).op (itI l n).a (itI l n).b (disp8 (plN l g (itG (itF l g) n).toNat - plN l g n)) (itI l n).imm]
def ckP (l : List Ob) (g : Glb) (n : Nat) (p : Int) : List Int :=
  if itB (itF l g) n = false then wdP l g (itO l n).1 (itO l n).2 p (itS (itF l g) n).toNat
  else if (loF l g).getD n false = true then [p + 1] else []
theorem wdL_len (l : List Ob) (g : Glb) (o a : Int) : ∀ i, (wdL l g o a i).length = i
  | 0 => rfl
  | i + 1 => by rw [wdL, List.length_append, wdL_len l g o a i]; rfl
theorem wdN_eq (l : List Ob) (g : Glb) (o a : Int) (x : Img) : ∀ i, wdN l g o a x i = { x with code := x.code ++ wdL l g o a i, places := x.places ++ wdP l g o a x.code.length i }
  | 0 => by simp [wdN, wdL, wdP]
  | i + 1 => by
    rw [wdN, wdN_eq l g o a x i, wdM, wdL, wdP]
    simp only [Img.mk.injEq, true_and, and_true]
    refine ⟨List.append_assoc _ _ _, ?_⟩
    split
    · simp only [List.length_append, wdL_len]
      rw [List.append_assoc]; congr 2
    · rw [List.append_nil]
theorem ptM_eq (l : List Ob) (g : Glb) (n : Nat) (x : Img) : ptM l g n x = { x with code := x.code ++ ckC l g n, places := x.places ++ ckP l g n x.code.length, starts := x.starts ++ ckS l n x.code.length } := by
  have hS : ptS l n x = { x with starts := x.starts ++ ckS l n x.code.length } := by
    unfold ptS ckS; split
    · rfl
    · simp
  unfold ptM ckC ckP
  rw [hS]
  split
  · rw [wdN_eq]
  · split
    · rfl
    · simp
theorem ckC_len {l : List Ob} {g : Glb} (G : NmG l g) {n : Nat} (hn : n < oBs l l.length) : ((ckC l g n).length : Int) = itS (itF l g) n + if (loF l g).getD n false = true then 1 else 0 := by
  unfold ckC
  have z := itF_size l g hn
  by_cases hb : itB (itF l g) n = false
  · rw [if_pos hb, wdL_len, if_neg fun h => by rw [lo_br h] at hb; cases hb]; omega
  · rw [if_neg hb]
    obtain ⟨o, w, I⟩ := itAt hn
    have := I.one G (by simpa using hb)
    split
    · rw [this]; rfl
    · rw [this]; rfl
theorem ptN_pos {l : List Ob} {g : Glb} (G : NmG l g) : ∀ n, n ≤ oBs l l.length → ((ptN l g n).code.length : Int) = plN l g n
  | 0, _ => rfl
  | n + 1, h => by
    have ih := ptN_pos G n (by omega)
    have hc := ckC_len G (show n < oBs l l.length by omega)
    rw [ptN, ptM_eq]
    show (((ptN l g n).code ++ ckC l g n).length : Int) = plS (itF l g) (loF l g) (n + 1)
    rw [List.length_append, plS]
    have : plS (itF l g) (loF l g) n = plN l g n := rfl
    omega
theorem ptN_entry (l : List Ob) (g : Glb) : ∀ n, (ptN l g n).entry = (im0 l g).entry ∧ (ptN l g n).data = (im0 l g).data ∧ (ptN l g n).drefs = (im0 l g).drefs
  | 0 => ⟨rfl, rfl, rfl⟩
  | n + 1 => by rw [ptN, ptM_eq]; exact ptN_entry l g n
theorem ptN_pre (l : List Ob) (g : Glb) {n : Nat} : ∀ m, n ≤ m → (∃ t, (ptN l g m).code = (ptN l g n).code ++ t) ∧ (∃ t, (ptN l g m).places = (ptN l g n).places ++ t) ∧ (∃ t, (ptN l g m).starts = (ptN l g n).starts ++ t)
  | 0, h => by rw [show n = 0 by omega]; exact ⟨⟨[], by simp⟩, ⟨[], by simp⟩, ⟨[], by simp⟩⟩
  | m + 1, h => by
    by_cases e : n = m + 1
    · subst e; exact ⟨⟨[], by simp⟩, ⟨[], by simp⟩, ⟨[], by simp⟩⟩
    · obtain ⟨⟨t1, e1⟩, ⟨t2, e2⟩, ⟨t3, e3⟩⟩ := ptN_pre l g (n := n) m (by omega)
      rw [ptN, ptM_eq]
      refine ⟨⟨t1 ++ ckC l g m, ?_⟩, ⟨t2 ++ ckP l g m (ptN l g m).code.length, ?_⟩, ⟨t3 ++ ckS l m (ptN l g m).code.length, ?_⟩⟩
      · simp only [e1, List.append_assoc]
      · simp only [e2, List.append_assoc]
      · simp only [e3, List.append_assoc]
theorem code_at {l : List Ob} {g : Glb} (K : LkOk l g) {n i : Nat} (hn : n < oBs l l.length) (hi : i < (ckC l g n).length) :
    (imgM l g).code.getD ((plN l g n).toNat + i) 0 = (ckC l g n).getD i 0 ∧ (plN l g n).toNat + i < (imgM l g).code.length := by
  have hb := K.bs
  obtain ⟨⟨t, e⟩, _⟩ := ptN_pre l g (n := n + 1) (itF l g).length (by omega)
  have hp := ptN_pos K.nm n (by omega)
  have e2 : (ptN l g (n + 1)).code = (ptN l g n).code ++ ckC l g n := by rw [ptN, ptM_eq]
  have e3 : (imgM l g).code = (ptN l g n).code ++ (ckC l g n ++ t) := by unfold imgM; rw [e, e2, List.append_assoc]
  have hpl : (plN l g n).toNat = (ptN l g n).code.length := by omega
  rw [e3, hpl]
  refine ⟨?_, by simp only [List.length_append]; omega⟩
  rw [getD_app_r _ _ _ (by omega), Nat.add_sub_cancel_left, getD_app_l _ _ _ hi]
theorem code_len {l : List Ob} {g : Glb} (K : LkOk l g) : ((imgM l g).code.length : Int) = plN l g (oBs l l.length) := by
  unfold imgM; rw [K.bs.2.1]; exact ptN_pos K.nm _ (Nat.le_refl _)
theorem start_iff {l : List Ob} {g : Glb} (G : NmG l g) (v : Int) : ∀ m, m ≤ oBs l l.length → (v ∈ (ptN l g m).starts ↔ ∃ n, n < m ∧ v ∈ ckS l n (plN l g n))
  | 0, _ => ⟨fun h => (by cases h), fun ⟨n, h, _⟩ => (by omega)⟩
  | m + 1, h => by
    have ih := start_iff G v m (by omega)
    have hp := ptN_pos G m (by omega)
    rw [ptN, ptM_eq]
    simp only [List.mem_append, hp, ih]
    exact ⟨fun h => h.elim (fun ⟨n, h1, h2⟩ => ⟨n, by omega, h2⟩) fun h => ⟨m, by omega, h⟩, fun ⟨n, h1, h2⟩ => by
      by_cases e : n = m
      · subst e; exact .inr h2
      · exact .inl ⟨n, by omega, h2⟩⟩
theorem place_iff {l : List Ob} {g : Glb} (G : NmG l g) (v : Int) : ∀ m, m ≤ oBs l l.length → (v ∈ (ptN l g m).places ↔ ∃ n, n < m ∧ v ∈ ckP l g n (plN l g n))
  | 0, _ => ⟨fun h => (by cases h), fun ⟨n, h, _⟩ => (by omega)⟩
  | m + 1, h => by
    have ih := place_iff G v m (by omega)
    have hp := ptN_pos G m (by omega)
    rw [ptN, ptM_eq]
    simp only [List.mem_append, hp, ih]
    exact ⟨fun h => h.elim (fun ⟨n, h1, h2⟩ => ⟨n, by omega, h2⟩) fun h => ⟨m, by omega, h⟩, fun ⟨n, h1, h2⟩ => by
      by_cases e : n = m
      · subst e; exact .inr h2
      · exact .inl ⟨n, by omega, h2⟩⟩
theorem start_of {l : List Ob} {g : Glb} (K : LkOk l g) {o w : Nat} (ho : o < l.length) (hw : w < (obN l o).map.length) (hm : (obN l o).map.getD w 0 = 1) : plN l g (pix l o w) ∈ (imgM l g).starts := by
  have hm' : (obN l o).map.getD w 0 ≠ 0 := by rw [hm]; decide
  have hlt := pix_lt (l := l) ho hw hm'
  unfold imgM
  rw [K.bs.2.1, start_iff K.nm _ _ (Nat.le_refl _)]
  refine ⟨pix l o w, hlt, ?_⟩
  have I := itAt_of ho hw hm'
  unfold ckS
  rw [I.own]
  simp only [Int.toNat_natCast]
  rw [if_pos hm]; exact List.mem_singleton.2 rfl
theorem adr_start {l : List Ob} {g : Glb} (K : LkOk l g) {x : Int × Int} (hx : Own l x) (h2 : (symAt l x.1 x.2).in_ = 2) : adrL l g x - 2048 ∈ (imgM l g).starts := by
  obtain ⟨o, s, rfl, ho, hs, h3⟩ := hx
  rw [symAt_nat] at h2
  obtain ⟨h0, hw, hm, _⟩ := K.code ho hs h2
  have := start_of K ho hw hm
  unfold adrL
  simp only [symAt_nat, Int.toNat_natCast]
  rw [if_neg (by omega)]
  have e : (2048 : Int) + plN l g (pix l o (syO l o s).value.toNat) - 2048 = plN l g (pix l o (syO l o s).value.toNat) := by omega
  rw [e]; exact this
theorem u32_id {x : Int} (h : 0 ≤ x) (h' : x ≤ 4294967295) : u32W x = x := by unfold u32W; rw [IntKind.wrap_u32]; omega
theorem VOb.add {o : Ob} (v : VOb o) {j : Nat} (hj : j < o.crels.length) (ha : (o.crels.getD j RT.rel.dflt).add ≠ 0) : (o.syms.getD (o.crels.getD j RT.rel.dflt).sym.toNat RT.sym.dflt).in_ = 1 := by
  obtain ⟨_, _, _, _, c5, _, _, c8, _⟩ := v.crel hj _ rfl
  unfold shapeB at c8
  rcases c5 with h | h
  · rw [if_neg (by omega)] at c8
    split at c8
    · cases c8
    · rename_i h1
      simp only [Bool.and_eq_true, Bool.not_eq_true', decide_eq_false_iff_not, not_and, Bool.not_eq_false] at h1
      simpa using h1 ha
  · rw [if_pos h] at c8
    simp only [Bool.and_eq_true, decide_eq_true_eq] at c8
    exact absurd c8.2 ha
theorem VOb.addD {o : Ob} (v : VOb o) {j : Nat} (hj : j < o.drels.length) (ha : (o.drels.getD j RT.rel.dflt).add ≠ 0) : (o.syms.getD (o.drels.getD j RT.rel.dflt).sym.toNat RT.sym.dflt).in_ = 1 := by
  have := v.dr j hj
  unfold drE at this
  simp only at this
  split at this
  · cases this
  · rename_i hs
    rw [this] at hs
    simp only [Bool.not_false, Bool.true_and, Bool.and_eq_true, Bool.not_eq_true', decide_eq_false_iff_not, not_and, Bool.not_eq_false] at hs
    simpa using hs ha
theorem real_data {l : List Ob} {g : Glb} {i : Nat} {s : Int} (h0 : 0 ≤ s) (h : (syO l i s.toNat).in_ = 1) : (symAt l (realM l g i s).1 (realM l g i s).2).in_ = 1 := by
  obtain ⟨s', rfl⟩ : ∃ n : Nat, s = n := ⟨s.toNat, (Int.toNat_of_nonneg h0).symm⟩
  have e : symAt l i s' = syO l i s' := symAt_nat l i s'
  have h' : (symAt l i s').in_ = 1 := by rw [e]; exact h
  unfold realM
  rw [if_neg (by omega)]; exact h'
end Go.Proofs.YtacmmedhjebfjaaDoor
set_option linter.unusedVariables false
set_option linter.unusedSimpArgs false
namespace Go.Proofs.YtacmmedhjebfjaaDoor
open Go.RowKit Go.Sy Go.Fac
theorem wdP_iff (l : List Ob) (g : Glb) (o a p v : Int) : ∀ m, v ∈ wdP l g o a p m ↔ ∃ i : Nat, i < m ∧ wdC l g o (a + i) = true ∧ v = p + i
  | 0 => ⟨fun h => (by cases h), fun ⟨n, h, _⟩ => (by omega)⟩
  | m + 1 => by
    rw [wdP, List.mem_append, wdP_iff l g o a p v m]
    refine ⟨fun h => h.elim (fun ⟨i, h1, h2⟩ => ⟨i, by omega, h2⟩) fun h => ?_, fun ⟨i, h1, h2, h3⟩ => ?_⟩
    · split at h
      · rename_i hc; exact ⟨m, by omega, hc, List.mem_singleton.1 h⟩
      · cases h
    · by_cases e : i = m
      · subst e; rw [if_pos h2]; exact .inr (List.mem_singleton.2 h3)
      · exact .inl ⟨i, by omega, h2, h3⟩
theorem wdL_get (l : List Ob) (g : Glb) (o a d : Int) : ∀ m i, i < m → (wdL l g o a m).getD i d = wdV l g o (a + i)
  | 0, i, h => by omega
  | m + 1, i, h => by
    rw [wdL]
    by_cases e : i = m
    · subst e
      have := getD_one (wdL l g o a i) (wdV l g o (a + i)) d
      rw [wdL_len] at this; exact this
    · rw [getD_app_l _ _ _ (by rw [wdL_len]; omega)]; exact wdL_get l g o a d m i (by omega)
theorem wdC_adr {l : List Ob} {g : Glb} (K : LkOk l g) {o : Nat} (ho : o < l.length) {a : Int} (h : wdC l g o a = true) : wdV l g o a = adrL l g (wdTo l g o a) ∧ Own l (wdTo l g o a) ∧ (symAt l (wdTo l g o a).1 (wdTo l g o a).2).in_ = 2 := by
  unfold wdC at h
  rw [Bool.and_eq_true] at h
  obtain ⟨h1, h2⟩ := h
  have h2 := of_decide_eq_true h2
  have hR := h1
  unfold wdR at hR
  rw [Bool.and_eq_true] at hR
  obtain ⟨k, k1, k2, k3⟩ := rH_is ho hR.1
  have V := K.nm.val o ho
  obtain ⟨c1, c2, c3, c4, _⟩ := V.crel k1 _ rfl
  have O : Own l (wdTo l g o a) := by unfold wdTo; rw [k3]; exact K.nm.own ho c3 c4
  have hA := K.adr O
  have hadd : (rG l o a).add = 0 := by
    rw [k3]
    by_cases e : (relN l o k).add = 0
    · exact e
    · have := V.add k1 e
      have h4 := real_data (g := g) c3 this
      have h5 : (symAt l (wdTo l g o a).1 (wdTo l g o a).2).in_ = 1 := by unfold wdTo; rw [k3]; exact h4
      omega
  refine ⟨?_, O, h2⟩
  unfold wdV
  rw [if_pos h1, hadd, u32_id (x := 0) (by omega) (by omega), Int.add_zero]
  exact u32_id hA.1 (by omega)
def NoData (l : List Ob) (g : Glb) : Prop := ∀ i, i < l.length → toO l g i = false
theorem NoData.at_ {l : List Ob} {g : Glb} (T : NoData l g) (G : NmG l g) {o k : Nat} (ho : o < l.length) (hk : k < (obN l o).crels.length) (hj : jumpsB (obN l o).code (obN l o).map (relN l o k).at_ (relN l o k).kind = true) :
    Own l (realM l g o (relN l o k).sym) ∧ (symAt l (realM l g o (relN l o k).sym).1 (realM l g o (relN l o k).sym).2).in_ = 2 := by
  have h := T o ho
  unfold toO at h
  rw [decide_eq_false_iff_not, Decidable.not_not] at h
  have h := idxM_all h k hk
  unfold toB at h
  rw [hj, Bool.true_and, decide_eq_false_iff_not] at h
  obtain ⟨_, _, c3, c4, _⟩ := (G.val o ho).crel hk _ rfl
  have O := G.own ho c3 c4
  refine ⟨O, ?_⟩
  obtain ⟨o', s', e, h1, h2, h3⟩ := O
  have e' : realM l g o (relN l o k).sym = ((o' : Int), (s' : Int)) := e
  rw [e'] at h ⊢
  simp only [symAt_nat] at h ⊢
  rcases Own.in12 G h1 h2 h3 with h4 | h4
  · exact absurd h4 h
  · exact h4
theorem br_to {l : List Ob} {g : Glb} (G : NmG l g) (T : NoData l g) {n o w : Nat} (I : ItAt l n o w) (hb : itB (itF l g) n = true) :
    Own l (itTo l g n) ∧ (symAt l (itTo l g n).1 (itTo l g n).2).in_ = 2 ∧ itG (itF l g) n = im1 (imL l) (itTo l g n).1 (symAt l (itTo l g n).1 (itTo l g n).2).value := by
  obtain ⟨k, k1, k2, k3, k4, k5, k6, k7, k8⟩ := I.br G hb
  have e : itTo l g n = realM l g o (relN l o k).sym := by unfold itTo; rw [I.own]; simp only; rw [k5]
  obtain ⟨h1, h2⟩ := T.at_ G I.ho k1 (by unfold jumpsB; rw [if_pos k2])
  rw [e]
  exact ⟨h1, h2, k4⟩
theorem goes_places {l : List Ob} {g : Glb} (K : LkOk l g) (T : NoData l g) {p : Int} (hp : p ∈ (imgM l g).places) : 0 ≤ p ∧ p < (imgM l g).code.length ∧ (imgM l g).code.getD p.toNat 0 - 2048 ∈ (imgM l g).starts := by
  unfold imgM at hp
  rw [K.bs.2.1, place_iff K.nm _ _ (Nat.le_refl _)] at hp
  obtain ⟨n, hn, hp⟩ := hp
  obtain ⟨o, w, I⟩ := itAt hn
  have hpl := K.plN (n := n) (by rw [K.bs.2.1]; omega)
  unfold ckP at hp
  by_cases hb : itB (itF l g) n = false
  · rw [if_pos hb, I.own] at hp
    rw [wdP_iff] at hp
    obtain ⟨i, hi, hc, rfl⟩ := hp
    have hl : i < (ckC l g n).length := by unfold ckC; rw [if_pos hb, wdL_len]; exact hi
    obtain ⟨c1, c2⟩ := code_at K hn hl
    have e : (plN l g n + i).toNat = (plN l g n).toNat + i := by omega
    have hC : (ckC l g n).getD i 0 = wdV l g o ((w : Int) + i) := by
      unfold ckC; rw [if_pos hb, I.own]; exact wdL_get _ _ _ _ _ _ _ hi
    obtain ⟨a1, a2, a3⟩ := wdC_adr K I.ho hc
    refine ⟨by omega, by omega, ?_⟩
    rw [e, c1, hC, a1]
    exact adr_start K a2 a3
  · rw [if_neg hb] at hp
    have hb : itB (itF l g) n = true := by simpa using hb
    by_cases hlo : (loF l g).getD n false = true
    · rw [if_pos hlo] at hp
      have hp := List.mem_singleton.1 hp
      subst hp
      have hC : ckC l g n = [wordW ((itI l n).op - 16 + 19) (itI l n).a (itI l n).b 0 (adrL l g (itTo l g n)), adrL l g (itTo l g n)] := by unfold ckC; rw [if_neg (by rw [hb]; simp), if_pos hlo]
      obtain ⟨c1, c2⟩ := code_at K hn (i := 1) (by rw [hC]; exact Nat.lt_succ_self 1)
      have e : (plN l g n + 1).toNat = (plN l g n).toNat + 1 := by omega
      obtain ⟨a2, a3, _⟩ := br_to K.nm T I hb
      refine ⟨by omega, by omega, ?_⟩
      rw [e, c1, hC]
      exact adr_start K a2 a3
    · rw [if_neg hlo] at hp; cases hp
structure DtI (l : List Ob) (g : Glb) (b : Int) (x : List Int × List Int) : Prop where
  ok : ∀ p, p ∈ x.2 → 0 ≤ p ∧ p < b ∧ p < x.1.length ∧ x.1.getD p.toNat 0 - 2048 ∈ (imgM l g).starts
theorem dtJ_inv {l : List Ob} {g : Glb} (K : LkOk l g) {i : Nat} (hi : i < l.length) {x : List Int × List Int} (hx : (x.1.length : Int) = oDn l (i + 1)) (h : DtI l g (oDn l i) x) : ∀ j, j ≤ (obN l i).drels.length → DtI l g (oDn l i + lastR (obN l i).drels j + 1) (dtJ l g i x j)
  | 0, _ => ⟨fun p hp => by
      obtain ⟨h1, h2, h3⟩ := h.ok p hp
      exact ⟨h1, by show p < oDn l i + -1 + 1; omega, h3⟩⟩
  | j + 1, hj => by
    have ih := dtJ_inv K hi hx h j (by omega)
    have V := K.nm.val i hi
    obtain ⟨c1, c2, c3, c4, c5, c6, c7⟩ := V.drel (show j < _ by omega) _ rfl
    have hlen : ((dtJ l g i x j).1.length : Int) = oDn l (i + 1) := by rw [(dtJ_len l g i x j).1]; exact hx
    have hd0 := oDn_nn l i
    have hd1 : oDn l (i + 1) = oDn l i + (obN l i).data.length := rfl
    have hlast : lastR (obN l i).drels (j + 1) = (drlN l i j).at_ := rfl
    have hq : ((obN l i).drels.getD j RT.rel.dflt) = drlN l i j := rfl
    rw [hq] at c1 c2 c3 c4 c5 c6 c7
    rw [dtJ, hlast]
    generalize dtJ l g i x j = y at ih hlen
    unfold dtS
    have old : ∀ v, ∀ p, p ∈ y.2 → 0 ≤ p ∧ p < oDn l i + (drlN l i j).at_ + 1 ∧ p < (y.1.set (oDn l i + (drlN l i j).at_).toNat v).length ∧ (y.1.set (oDn l i + (drlN l i j).at_).toNat v).getD p.toNat 0 - 2048 ∈ (imgM l g).starts := fun v p hp => by
      obtain ⟨h1, h2, h3, h4⟩ := ih.ok p hp
      refine ⟨h1, by omega, by rw [List.length_set]; exact h3, ?_⟩
      rw [getD_set, if_neg (by omega)]; exact h4
    refine ⟨fun p hp => ?_⟩
    simp only at hp ⊢
    split at hp
    · rename_i h2
      rw [List.mem_append] at hp
      rcases hp with hp | hp
      · exact old _ p hp
      · have hp := List.mem_singleton.1 hp
        subst hp
        refine ⟨by omega, by omega, by rw [List.length_set]; omega, ?_⟩
        rw [getD_set, if_pos ⟨rfl, by omega⟩]
        have O := K.nm.own hi c3 c4
        have hA := K.adr O
        have hadd : (drlN l i j).add = 0 := by
          by_cases e : (drlN l i j).add = 0
          · exact e
          · have := V.addD (show j < _ by omega) e
            have h4 := real_data (g := g) c3 this
            omega
        rw [hadd, u32_id (x := 0) (by omega) (by omega), Int.add_zero, u32_id hA.1 (by omega)]
        exact adr_start K O h2
    · exact old _ p hp
theorem dtO_inv {l : List Ob} {g : Glb} (K : LkOk l g) : ∀ i, i ≤ l.length → DtI l g (oDn l i) (dtO l g i)
  | 0, _ => ⟨fun p hp => by cases hp⟩
  | i + 1, h => by
    have ih := dtO_inv K i (by omega)
    have hl := dtO_len l g i
    have hd1 : oDn l (i + 1) = oDn l i + (obN l i).data.length := rfl
    have := dtJ_inv K (show i < l.length by omega) (x := ((dtO l g i).1 ++ (obN l i).data, (dtO l g i).2)) (by simp only [List.length_append]; omega) ⟨fun p hp => by
      obtain ⟨h1, h2, h3, h4⟩ := ih.ok p hp
      refine ⟨h1, h2, by simp only [List.length_append]; omega, ?_⟩
      simp only
      rw [getD_app_l _ _ _ (by omega)]; exact h4⟩ _ (Nat.le_refl (obN l i).drels.length)
    rw [dtO]
    have hl2 := dtO_len l g (i + 1)
    rw [dtO] at hl2
    refine ⟨fun p hp => ?_⟩
    obtain ⟨h1, h2, h3, h4⟩ := this.ok p hp
    exact ⟨h1, by omega, h3, h4⟩
theorem goes_drefs {l : List Ob} {g : Glb} (K : LkOk l g) {p : Int} (hp : p ∈ (imgM l g).drefs) : 0 ≤ p ∧ p < (imgM l g).data.length ∧ (imgM l g).data.getD p.toNat 0 - 2048 ∈ (imgM l g).starts := by
  obtain ⟨_, e2, e3⟩ := ptN_entry l g (itF l g).length
  have e2 : (imgM l g).data = (dtO l g l.length).1 := e2
  have e3 : (imgM l g).drefs = (dtO l g l.length).2 := e3
  rw [e3] at hp
  rw [e2]
  obtain ⟨h1, _, h3, h4⟩ := (dtO_inv K l.length (Nat.le_refl _)).ok p hp
  exact ⟨h1, h3, h4⟩
theorem atM_get (cr : List Rel) (k : Int) : ∀ n, mapGet (atM cr n) k ≠ 0 → ∃ j, j < n ∧ (cr.getD j RT.rel.dflt).at_ = k ∧ (cr.getD j RT.rel.dflt).kind = mapGet (atM cr n) k
  | 0, h => absurd rfl h
  | n + 1, h => by
    rw [atM] at h ⊢
    by_cases e : (cr.getD n RT.rel.dflt).at_ = k
    · subst e; rw [get_put]; exact ⟨n, by omega, rfl, rfl⟩
    · rw [get_put_ne _ _ _ _ e] at h ⊢
      obtain ⟨j, h1, h2⟩ := atM_get cr k n h
      exact ⟨j, by omega, h2⟩
theorem VOb.ins {o : Ob} (v : VOb o) {w : Nat} (hw : w < o.map.length) (hm : o.map.getD w 0 = 1) : insB o.code o.map w = true ∧ ofOk (o.code.getD w 0) = true ∧ (insI o.code o.map w) = ofF (o.code.getD w 0) (nextW o.code w) ∧ callB o.code o.map w = false ∧
    (isaTwo (o.code.getD w 0 / 16777216) = true → w + 1 < o.code.length ∧ o.map.getD (w + 1) 0 = 0) ∧ (insI o.code o.map w).op = o.code.getD w 0 / 16777216 := by
  have h := v.words w (by have := v.map; omega)
  unfold wordBE at h
  rw [Int.toNat_natCast, if_pos hm] at h
  split at h
  · cases h
  · rename_i h1
    have h1 : (!insB o.code o.map w || callB o.code o.map w) = false := by simpa using h1
    rw [Bool.or_eq_false_iff, Bool.not_eq_false'] at h1
    obtain ⟨h1, h1'⟩ := h1
    have hb := h1
    unfold insB at hb
    rw [Bool.and_eq_true, Int.toNat_natCast] at hb
    have e : insI o.code o.map w = ofF (o.code.getD w 0) (nextW o.code w) := by unfold insI; rw [if_pos hb.1, Int.toNat_natCast]
    have e2 : (insI o.code o.map w).op = o.code.getD w 0 / 16777216 := by rw [e]; unfold ofF; rw [if_pos hb.2]
    refine ⟨h1, hb.2, e, h1', fun ht => ?_, e2⟩
    split at h
    · cases h
    · rename_i h2
      rw [e2, ht] at h2
      simp only [Bool.true_and, Bool.or_eq_true, decide_eq_true_eq, not_or, Bool.not_eq_true', decide_eq_false_iff_not, Decidable.not_not] at h2
      have e3 : ((w : Int) + 1).toNat = w + 1 := by omega
      rw [e3] at h2
      exact ⟨by omega, h2.2⟩
theorem VOb.first {o : Ob} (v : VOb o) {j : Nat} (hj : j < o.crels.length) {w : Nat} (hw : (o.crels.getD j RT.rel.dflt).at_ = w) (hm : o.map.getD w 0 = 1) : (o.crels.getD j RT.rel.dflt).kind = 2 := by
  obtain ⟨_, _, _, _, c5, _, _, c8, _⟩ := v.crel hj _ rfl
  rcases c5 with h | h
  · unfold shapeB at c8
    rw [if_neg (by omega)] at c8
    split at c8
    · cases c8
    · rw [hw, Int.toNat_natCast, hm] at c8
      rw [if_neg (by decide)] at c8
      simp at c8
  · exact h
theorem wordW_val {op a b c i : Int} (h : wordOk op a b c i = true) : wordW op a b c i = op * 16777216 + a * 65536 + b * 256 + c ∧ 0 ≤ a ∧ a ≤ 255 ∧ 0 ≤ b ∧ b ≤ 255 ∧ 0 ≤ c ∧ c ≤ 255 := by
  have hw := h
  unfold wordOk at h
  simp only [Bool.and_eq_true] at h
  obtain ⟨⟨⟨⟨_, g2⟩, g3⟩, g4⟩, _⟩ := h
  have := fits_in g2
  have := fits_in g3
  have := fits_in g4
  unfold wordW; rw [if_pos hw]; unfold wordVal
  exact ⟨rfl, by omega, by omega, by omega, by omega, by omega, by omega⟩
theorem word_dec {op a b c : Int} (ha : 0 ≤ a ∧ a ≤ 255) (hb : 0 ≤ b ∧ b ≤ 255) (hc : 0 ≤ c ∧ c ≤ 255) : (op * 16777216 + a * 65536 + b * 256 + c) / 16777216 = op ∧ (op * 16777216 + a * 65536 + b * 256 + c) / 65536 % 256 = a ∧ (op * 16777216 + a * 65536 + b * 256 + c) / 256 % 256 = b ∧ (op * 16777216 + a * 65536 + b * 256 + c) % 256 = c := by omega
theorem long_ok {op a b : Int} (h : shortM op = true) {c i : Int} (hw : wordOk op a b c 0 = true) : wordOk (op - 16 + 19) a b 0 i = true ∧ wordOk (op - 16 + 19) a b 0 0 = true := by
  unfold wordOk at hw ⊢
  simp only [Bool.and_eq_true] at hw
  obtain ⟨⟨⟨⟨_, g2⟩, g3⟩, _⟩, _⟩ := hw
  rcases short_op h with h | h | h <;> subst h
  · have e1 : kA 16 = kA 19 := rfl
    have e2 : kB 16 = kB 19 := rfl
    rw [e1] at g2; rw [e2] at g3
    simp only [show (16 : Int) - 16 + 19 = 19 from rfl, g2, g3]
    exact ⟨by simp [isaClass, isaTwo, fitsM, kC, most], by simp [isaClass, isaTwo, fitsM, kC, most]⟩
  · have e1 : kA 17 = kA 20 := rfl
    have e2 : kB 17 = kB 20 := rfl
    rw [e1] at g2; rw [e2] at g3
    simp only [show (17 : Int) - 16 + 19 = 20 from rfl, g2, g3]
    exact ⟨by simp [isaClass, isaTwo, fitsM, kC, most], by simp [isaClass, isaTwo, fitsM, kC, most]⟩
  · have e1 : kA 18 = kA 21 := rfl
    have e2 : kB 18 = kB 21 := rfl
    rw [e1] at g2; rw [e2] at g3
    simp only [show (18 : Int) - 16 + 19 = 21 from rfl, g2, g3]
    exact ⟨by simp [isaClass, isaTwo, fitsM, kC, most], by simp [isaClass, isaTwo, fitsM, kC, most]⟩
theorem short_ok {op a b : Int} (h : shortM op = true) {c : Int} (hw : wordOk op a b c 0 = true) {z : Int} (hz : 0 ≤ z ∧ z ≤ 255) : wordOk op a b z 0 = true := by
  unfold wordOk at hw ⊢
  simp only [Bool.and_eq_true] at hw ⊢
  obtain ⟨⟨⟨⟨g1, g2⟩, g3⟩, _⟩, g5⟩ := hw
  refine ⟨⟨⟨⟨g1, g2⟩, g3⟩, ?_⟩, g5⟩
  have e : kC op = 2 := by rcases short_op h with h | h | h <;> rw [h] <;> rfl
  rw [e]
  unfold fitsM most
  simp; omega
theorem disp8_in (z : Int) : 0 ≤ disp8 z ∧ disp8 z ≤ 255 := by unfold disp8; rw [IntKind.wrap_u8]; omega
theorem disp8_back {z : Int} (h : -128 ≤ z) (h' : z ≤ 127) : dispM (disp8 z) = z := by unfold dispM disp8; rw [IntKind.wrap_u8]; omega
inductive Became (l : List Ob) (g : Glb) (n o w : Nat) : Prop where
  | same : itB (itF l g) n = false → ckC l g n = wdL l g o w (itS (itF l g) n).toNat → wdV l g o w = (obN l o).code.getD w 0 → Became l g n o w
  | long : itB (itF l g) n = true → (loF l g).getD n false = true → shortM (itI l n).op = true → wordOk ((itI l n).op - 16 + 19) (itI l n).a (itI l n).b 0 0 = true →
      ckC l g n = [((itI l n).op - 16 + 19) * 16777216 + (itI l n).a * 65536 + (itI l n).b * 256 + 0, adrL l g (itTo l g n)] → Became l g n o w
  | short : itB (itF l g) n = true → (loF l g).getD n false = false → shortM (itI l n).op = true → wordOk (itI l n).op (itI l n).a (itI l n).b (disp8 (plN l g (itG (itF l g) n).toNat - plN l g n)) 0 = true →
      ckC l g n = [(itI l n).op * 16777216 + (itI l n).a * 65536 + (itI l n).b * 256 + disp8 (plN l g (itG (itF l g) n).toNat - plN l g n)] → Became l g n o w
theorem became {l : List Ob} {g : Glb} (K : LkOk l g) {n o w : Nat} (I : ItAt l n o w) (hm : (obN l o).map.getD w 0 = 1) : Became l g n o w := by
  have V := K.nm.val o I.ho
  obtain ⟨i1, i2, i3, i4, i5, i6⟩ := V.ins I.hw hm
  have eI : itI l n = insI (obN l o).code (obN l o).map w := by unfold itI; rw [I.own]; simp only [Int.toNat_natCast]
  by_cases hb : itB (itF l g) n = false
  · refine .same hb (by unfold ckC; rw [if_pos hb, I.own]) ?_
    have hR : wdR l o w = false := by
      cases h : wdR l o w with
      | false => rfl
      | true =>
        unfold wdR at h
        rw [Bool.and_eq_true] at h
        obtain ⟨k, k1, k2, k3⟩ := rH_is I.ho h.1
        have h2 := of_decide_eq_true h.2
        rw [k3] at h2
        have := V.first k1 k2 hm
        have : (relN l o k).kind = 2 := this
        omega
    unfold wdV
    rw [if_neg (by rw [hR]; simp)]
    simp only [Int.toNat_natCast]
  · have hb : itB (itF l g) n = true := by simpa using hb
    obtain ⟨k, k1, k2, k3, k4, k5, k6, k7, k8⟩ := I.br K.nm hb
    rw [← eI] at k8
    have hw : wordOk (itI l n).op (itI l n).a (itI l n).b (itI l n).c 0 = true := by
      rw [eI, i3]; unfold ofF; rw [if_pos i2]; exact i2
    have himm : (itI l n).imm = 0 := by
      have : isaTwo ((obN l o).code.getD w 0 / 16777216) = false := by rw [← i6, ← eI]; exact short_two k8
      rw [eI, i3]; unfold ofF ofImm; rw [if_pos i2, this]; rfl
    cases hlo : (loF l g).getD n false with
    | true =>
      refine .long hb hlo k8 (long_ok (i := 0) k8 hw).2 ?_
      unfold ckC
      rw [if_neg (by rw [hb]; simp), if_pos hlo, (wordW_val (long_ok k8 hw).1).1]
    | false =>
      have hok := short_ok k8 hw (disp8_in (plN l g (itG (itF l g) n).toNat - plN l g n))
      refine .short hb hlo k8 hok ?_
      unfold ckC
      rw [if_neg (by rw [hb]; simp), if_neg (by rw [hlo]; simp), himm, (wordW_val hok).1]
theorem start_is {l : List Ob} {g : Glb} (K : LkOk l g) {p : Int} (hp : p ∈ (imgM l g).starts) : ∃ n o w, n < oBs l l.length ∧ ItAt l n o w ∧ (obN l o).map.getD w 0 = 1 ∧ p = plN l g n := by
  unfold imgM at hp
  rw [K.bs.2.1, start_iff K.nm _ _ (Nat.le_refl _)] at hp
  obtain ⟨n, hn, hp⟩ := hp
  obtain ⟨o, w, I⟩ := itAt hn
  unfold ckS at hp
  rw [I.own] at hp
  simp only [Int.toNat_natCast] at hp
  split at hp
  · rename_i hm
    exact ⟨n, o, w, hn, I, hm, List.mem_singleton.1 hp⟩
  · cases hp
theorem goes_starts {l : List Ob} {g : Glb} (K : LkOk l g) (T : NoData l g) {p : Int} (hp : p ∈ (imgM l g).starts) : 0 ≤ p ∧ p < (imgM l g).code.length ∧ ofOk ((imgM l g).code.getD p.toNat 0) = true ∧
    (shortM ((imgM l g).code.getD p.toNat 0 / 16777216) = true → p + dispM ((imgM l g).code.getD p.toNat 0 % 256) ∈ (imgM l g).starts) ∧
    (farM ((imgM l g).code.getD p.toNat 0 / 16777216) = true → p + 1 ∈ (imgM l g).places) := by
  obtain ⟨n, o, w, hn, I, hm, rfl⟩ := start_is K hp
  have V := K.nm.val o I.ho
  have hpl := K.plN (n := n) (by rw [K.bs.2.1]; omega)
  obtain ⟨i1, i2, i3, i4, i5, i6⟩ := V.ins I.hw hm
  have hwl : w < (obN l o).code.length := by have := V.map; have := I.hw; omega
  have hneed := V.need w hwl
  unfold needE at hneed
  have hneed : (insB (obN l o).code (obN l o).map w && ((shortM (insI (obN l o).code (obN l o).map w).op && !decide (mapGet (atM (obN l o).crels (obN l o).crels.length) (w : Int) = 2)) || ((farM (insI (obN l o).code (obN l o).map w).op || decide ((insI (obN l o).code (obN l o).map w).op = 15)) && !decide (mapGet (atM (obN l o).crels (obN l o).crels.length) ((w : Int) + 1) = 1)))) = false := by
    split at hneed
    · cases hneed
    · rename_i h; simpa using h
  rw [i1, Bool.true_and, Bool.or_eq_false_iff, i6] at hneed
  have eI : itI l n = insI (obN l o).code (obN l o).map w := by unfold itI; rw [I.own]; simp only [Int.toNat_natCast]
  have hpla : ∀ v, v ∈ ckP l g n (plN l g n) → v ∈ (imgM l g).places := fun v hv => by
    unfold imgM; rw [K.bs.2.1, place_iff K.nm _ _ (Nat.le_refl _)]; exact ⟨n, hn, hv⟩
  have first : ∀ c, (ckC l g n).getD 0 0 = c → 0 < (ckC l g n).length → (imgM l g).code.getD (plN l g n).toNat 0 = c ∧ plN l g n < (imgM l g).code.length := fun c h h' => by
    obtain ⟨c1, c2⟩ := code_at K hn h'
    rw [Nat.add_zero] at c1 c2
    exact ⟨by rw [c1, h], by omega⟩
  rcases became K I hm with ⟨hb, hC, hV⟩ | ⟨hb, hlo, hsh, hok, hC⟩ | ⟨hb, hlo, hsh, hok, hC⟩
  · have hsz := itF_size l g hn
    obtain ⟨c1, c2⟩ := first ((obN l o).code.getD w 0) (by rw [hC, wdL_get _ _ _ _ _ _ 0 (by omega)]; show wdV l g o ((w : Int) + 0) = _; rw [Int.add_zero]; exact hV) (by rw [hC, wdL_len]; omega)
    rw [c1]
    refine ⟨hpl.1, c2, i2, fun h => ?_, fun h => ?_⟩
    · rw [h, Bool.true_and, Bool.not_eq_false', decide_eq_true_eq] at hneed
      obtain ⟨k, k1, k2, k3⟩ := atM_get (obN l o).crels w _ (by rw [hneed.1]; decide)
      rw [hneed.1] at k3
      have := (brO_inv K.nm l.length (Nat.le_refl _)).all o k I.ho k1 (.inl I.ho) k3
      obtain ⟨w', e1, _, _, e4, _⟩ := br_at K.nm I.ho k1 k3
      have : w' = w := by
        have k2 : (relN l o k).at_ = w := k2
        rw [k2] at e1; omega
      subst this
      rw [e4, ← I.hn, hb] at this
      cases this
    · rw [h, Bool.true_or, Bool.true_and, Bool.not_eq_false', decide_eq_true_eq] at hneed
      obtain ⟨k, k1, k2, k3⟩ := atM_get (obN l o).crels ((w : Int) + 1) _ (by rw [hneed.2]; decide)
      rw [hneed.2] at k3
      have hfo : (obN l o).code.getD w 0 / 16777216 = 19 ∨ (obN l o).code.getD w 0 / 16777216 = 20 ∨ (obN l o).code.getD w 0 / 16777216 = 21 ∨ (obN l o).code.getD w 0 / 16777216 = 22 := by
        unfold farM at h; simp only [Bool.or_eq_true, decide_eq_true_eq] at h; omega
      have htwo : isaTwo ((obN l o).code.getD w 0 / 16777216) = true := by rcases hfo with h | h | h | h <;> rw [h] <;> rfl
      obtain ⟨t1, t2⟩ := i5 htwo
      have k2' : (relN l o k).at_ = (w : Int) + 1 := k2
      have k3' : (relN l o k).kind = 1 := k3
      have hj : jumpsB (obN l o).code (obN l o).map (relN l o k).at_ (relN l o k).kind = true := by
        unfold jumpsB
        rw [k2', k3', if_neg (by decide), show (w : Int) + 1 - 1 = w by omega, i1, i6, show ((w : Int) + 1).toNat = w + 1 by omega, t2]
        unfold isaJumps
        rw [Bool.true_and, decide_eq_true rfl, Bool.true_and, decide_eq_true_eq]; omega
      obtain ⟨_, h2⟩ := T.at_ K.nm I.ho k1 hj
      obtain ⟨r1, r2⟩ := rG_at K.nm I.ho k1
      rw [k2'] at r1 r2
      refine hpla _ ?_
      unfold ckP
      rw [if_pos hb, I.own, wdP_iff]
      refine ⟨1, ?_, ?_, rfl⟩
      · rw [(I.words K.nm).1]
        unfold szW twoB
        rw [i1, i6, htwo]; decide
      · show wdC l g o ((w : Int) + 1) = true
        unfold wdC wdR wdTo
        rw [r1, r2, k3', h2]; rfl
  · obtain ⟨e0, a1, a2, b1, b2, _⟩ := wordW_val hok
    obtain ⟨d1, d2, d3, d4⟩ := word_dec (op := (itI l n).op - 16 + 19) ⟨a1, a2⟩ ⟨b1, b2⟩ (c := 0) ⟨by omega, by omega⟩
    obtain ⟨c1, c2⟩ := first (((itI l n).op - 16 + 19) * 16777216 + (itI l n).a * 65536 + (itI l n).b * 256 + 0) (by rw [hC]; rfl) (by rw [hC]; exact Nat.succ_pos 1)
    rw [c1]
    refine ⟨hpl.1, c2, ?_, fun h => ?_, fun h => ?_⟩
    · unfold ofOk; rw [d1, d2, d3, d4]; exact hok
    · rw [d1] at h
      have h1 := short_op hsh
      have h2 := short_op h
      omega
    · refine hpla _ ?_
      unfold ckP
      rw [if_neg (by rw [hb]; simp), if_pos hlo]; exact List.mem_singleton.2 rfl
  · obtain ⟨e0, a1, a2, b1, b2, _⟩ := wordW_val hok
    have hd := disp8_in (plN l g (itG (itF l g) n).toNat - plN l g n)
    obtain ⟨d1, d2, d3, d4⟩ := word_dec (op := (itI l n).op) ⟨a1, a2⟩ ⟨b1, b2⟩ hd
    obtain ⟨c1, c2⟩ := first ((itI l n).op * 16777216 + (itI l n).a * 65536 + (itI l n).b * 256 + disp8 (plN l g (itG (itF l g) n).toNat - plN l g n)) (by rw [hC]; rfl) (by rw [hC]; exact Nat.succ_pos 0)
    rw [c1]
    refine ⟨hpl.1, c2, ?_, fun h => ?_, fun h => ?_⟩
    · unfold ofOk; rw [d1, d2, d3, d4]; exact hok
    · rw [d4]
      obtain ⟨t1, t2, t3⟩ := br_to K.nm T I hb
      have hfit := rlx_fits (itF l g) (i := n) (by rw [K.bs.2.1]; exact hn) hb hlo
      obtain ⟨o', s', e, ho', hs', h3'⟩ := t1
      rw [e] at t2 t3
      simp only [symAt_nat] at t2 t3
      obtain ⟨q0, q1, q2, q3, q4⟩ := K.code ho' hs' t2
      rw [q3] at t3
      unfold fitsB at hfit
      rw [Bool.and_eq_true, decide_eq_true_eq, decide_eq_true_eq, Int.toNat_natCast, t3, Int.toNat_natCast] at hfit
      have f1 : (plA (itF l g) (rlx (itF l g))).getD (pix l o' (syO l o' s').value.toNat) 0 = plN l g (pix l o' (syO l o' s').value.toNat) := plL_get _ _ _ _ (by omega)
      have f2 : (plA (itF l g) (rlx (itF l g))).getD n 0 = plN l g n := plL_get _ _ _ _ (by rw [K.bs.2.1]; omega)
      rw [f1, f2] at hfit
      rw [t3, Int.toNat_natCast, disp8_back hfit.1 hfit.2]
      have e2 : plN l g n + (plN l g (pix l o' (syO l o' s').value.toNat) - plN l g n) = plN l g (pix l o' (syO l o' s').value.toNat) := by omega
      rw [e2]
      exact start_of K ho' q1 q2
    · rw [d1] at h
      have h1 := short_op hsh
      unfold farM at h
      simp only [Bool.or_eq_true, decide_eq_true_eq] at h
      omega
end Go.Proofs.YtacmmedhjebfjaaDoor
set_option linter.unusedVariables false
set_option linter.unusedSimpArgs false
set_option linter.unusedSectionVars false
namespace Go.Proofs.YtacmmedhjebfjaaDoor
open Go.RowKit Go.Sy Go.Fac
section
variable {ea : Ear} {has : Int → Prop} {rest : List (Nat × SVal)} [ht : Nonempty (EType ea)]
def kObjectR : List SVal → Nat → Acc ORes := fun a n => match a with | [.ro .u32 dd, .ro .line ls] => .ret ({ v := obV dd (oAll ls).code (oAll ls).map (nilR .rel) (oAll ls).cr (oAll ls).sy, vc := some (ls.length ≤ 100000 ∧ shortN dd) }) | _ => .fail "ObjectR"
theorem argObjectR (dd : List Int) (ls : List Ln) : (all (subL tAtN none' [] deep [.ro .u32 dd, .ro .line ls] [.ro .u32 dd, .ro .line ls])) = (
  dd = dd ∧ ls = ls) := by kernel_rfl
theorem runObjectR (rest : List (Nat × SVal)) (dd : List Int) (ls : List Ln) : (Tr.sat (plainQ (obV dd (oAll ls).code (oAll ls).map (nilR .rel) (oAll ls).cr (oAll ls).sy)) (run (env (G7 ++ rest) [(33, kWords), (34, kSym), (32, krWord), (31, krTwo)]) [(3, LObj dd ls)] (bodyOf Tryd.f18) (start [.ro .u32 dd, .ro .line ls] 132) (ends (env (G7 ++ rest) [(33, kWords), (34, kSym), (32, krWord), (31, krTwo)]) Tryd.f18.results.toList))) = (
  RQ (List.length dd ≤ 1000000) (RQ (List.length ls ≤ 100000 ∧ ls = ls ∧ (0 : Int) = ((0 : Nat) : Int) ∧ dd = dd ∧ (oSt ls (0 : Nat)).code = @List.nil (RT.ty RT.u32) ∧ (oSt ls (0 : Nat)).map = @List.nil (RT.ty RT.u8) ∧ (oSt ls (0 : Nat)).cr = @List.nil (RT.ty RT.rel) ∧ (oSt ls (0 : Nat)).sy = @List.nil (RT.ty RT.sym)) (dd = dd ∧ (oAll ls).code = (oAll ls).code ∧ (oAll ls).map = (oAll ls).map ∧ nilR RT.rel = @List.nil (RT.ty RT.rel) ∧ (oAll ls).cr = (oAll ls).cr ∧ (oAll ls).sy = (oAll ls).sy))) := by kernel_rfl
set_option maxHeartbeats 4000000 in
theorem cObjectR : Con ea has (G7 ++ rest) 18 kObjectR := by
  refine plain_mkB Tryd.func18 132 (con := [(33, kWords), (34, kSym), (32, krWord), (31, krTwo)]) ⟨cWords, cSym, crWord, crTwo, trivial⟩ (fun hA hr hv => ?_) (by kernel_rfl) (by kernel_rfl) Tryd.ntmps18
  unfold kObjectR at hr; split at hr
  · rename_i dd ls
    have := ret_ok hr; subst this
    replace hv := hv _ rfl
    refine ⟨_, [(3, LObj dd ls)], rfl, rfl, .of (argObjectR dd ls) (by simp), rfl, (fun W R ρ0 own0 hown => hl1 (by kernel_rfl) (by kernel_rfl) (lObj dd ls hown)), .of (runObjectR rest dd ls) ?_⟩
    delta RQ
    clear hr
    exact ⟨hv.2, fun _ => ⟨⟨hv.1, rfl, rfl, rfl, rfl, rfl, rfl, rfl⟩, fun _ => ⟨rfl, rfl, rfl, rfl, rfl, rfl⟩⟩⟩
  · cases hr
abbrev kObjectRF := frz shObj kObjectR
theorem cObjectRF : Con ea has (G7 ++ rest) 18 kObjectRF := frz_ok cObjectR shObj
def amongB (l : List Int) (n : Int) : Bool := decide (n ∈ l)
theorem amongB_iff {l : List Int} {n : Int} : amongB l n = true ↔ n ∈ l := by unfold amongB; exact decide_eq_true_iff
def HAmong (l : List Int) (n' : Int) (i : Nat) : SState := { fr := [(0, .ro .i64 l), (1, .int .i64 (.full n')), (5, .int .i64 (.sym i 0 1000000))], hp := [], next := 0, sz := 18 }
def XAmong (l : List Int) (n' : Int) : SState := { fr := [], hp := [], next := 0, sz := 18 }
def YAmong (l : List Int) (n' : Int) : SState := { fr := [(4, .bool (.lit true))], hp := [], next := 0, sz := 18 }
def LAmong (l : List Int) (n' : Int) : LSum := ⟨HAmong l n' 0, fun k => .ite (!amongB l n') (k (.exit 0) (XAmong l n')) (k .ret (YAmong l n')), l.length ≤ 1000000⟩
theorem bAmong (rest : List (Nat × SVal)) (l : List Int) (n' : Int) (i : Nat) : (Tr.sat (rnd2 (env (G7 ++ rest) []) (fun i => ∀ j, j < i → l.getD j 0 ≠ n') (l.length) (HAmong l n') 0 (!amongB l n') (XAmong l n') (YAmong l n') i) (run (env (G7 ++ rest) []) [] (loopN (bodyOf Tryd.f11) 0) (HAmong l n' i) .leaf)) = (
  IT (decide ((i : Int) < ((List.length l) : Int))) (RQ (0 ≤ (i : Int) ∧ (i : Int) < ((List.length l) : Int)) (IT (decide (List.getD l (Int.toNat (i : Int)) (RT.dflt RT.i64) = n')) ((!amongB l n') = false ∧ true = true) (i < List.length l ∧ (∀ (j : Nat), j < i + 1 → List.getD l j (0 : Int) ≠ n') ∧ l = l ∧ n' = n' ∧ (i : Int) + 1 = ((i + 1) : Int) ∧ 0 ≤ ((i + 1) : Int) ∧ ((i + 1) : Int) ≤ 1000000))) (Nat.beq (0 : Nat) (0 : Nat) = true ∧ (!amongB l n') = true ∧ True)) := by kernel_rfl
set_option maxHeartbeats 4000000 in
theorem lAmong (l : List Int) (n' : Int) {W : World} {R own0 : Nat → Prop} {ρ0 : Nat → Option Value} (hown : HownOk (env (G7 ++ rest) []) own0 ρ0) : LOk Tryd.prog (env (G7 ++ rest) []) (ctx ea has) (G7 ++ rest) W R own0 ρ0 (loopN (bodyOf Tryd.f11) 0) (LAmong l n') := by
  refine loop2_ok (J := fun i => ∀ j, j < i → l.getD j 0 ≠ n') (N := l.length) (H := HAmong l n') (X := XAmong l n') (Y := YAmong l n') (env_ok (con := []) trivial) hown (ls := fun i => []) (fun i => noSums (by kernel_rfl)) (fun hm i hi hj => ?_) 0 (fun hm => by first | exact Nat.zero_le _ | omega) (fun hm => fun j h => absurd h (Nat.not_lt_zero _))
  rw [bAmong rest l n' i]
  delta RQ IT
  simp only [Int.toNat_natCast, eq_self, true_and, and_true]
  have d0 : RT.i64.dflt = (0 : Int) := rfl
  rw [d0]
  refine ⟨fun h => ?_, fun h => ?_⟩
  · have h := of_decide_eq_true h
    have hlt : i < l.length := by omega
    refine ⟨by omega, fun _ => ⟨fun g1 => ?_, fun g1 => ?_⟩⟩
    · have g1 := of_decide_eq_true g1
      have : n' ∈ l := by rw [← g1, List.getD_eq_getElem?_getD, List.getElem?_eq_getElem hlt]; exact List.getElem_mem hlt
      rw [amongB_iff.2 this]; rfl
    · have g1 := of_decide_eq_false g1
      have hJ : ∀ j, j < i + 1 → l.getD j 0 ≠ n' := fun j hj' => by
        by_cases e : j < i
        · exact hj j e
        · have : j = i := by omega
          subst this; exact g1
      have w : IntKind.i64.wrap ((i : Int) + 1) = i + 1 := by rw [IntKind.wrap_i64]; omega
      first | exact ⟨hlt, hJ, by omega, by omega, by omega⟩ | exact ⟨hlt, hJ, by omega, by omega⟩
  · have h := of_decide_eq_false h
    have : i = l.length := by omega
    have hn : n' ∉ l := fun hmem => by
      obtain ⟨j, hj', e⟩ := List.getElem_of_mem hmem
      have := hj j (by omega)
      rw [List.getD_eq_getElem?_getD, List.getElem?_eq_getElem hj'] at this
      exact this e
    have : amongB l n' = false := by
      cases h : amongB l n' with
      | false => rfl
      | true => exact absurd (amongB_iff.1 h) hn
    rw [this]; exact ⟨rfl, rfl⟩
def kAmong : List SVal → Nat → Acc ORes := fun a n => match a with | [.ro .i64 l, .int .i64 n'] => .ret ({ v := .bool (.sym (amongB l n'.val)), vc := some (l.length ≤ 1000000) }) | _ => .fail "Among"
theorem argAmong (l : List Int) (n' : SI) : (all (subL tAtN none' [] deep [.ro .i64 l, .int .i64 n'] [.ro .i64 l, .int .i64 (.full n'.val)])) = (
  l = l ∧ SI.val n' = SI.val n') := by kernel_rfl
theorem runAmong (rest : List (Nat × SVal)) (l : List Int) (n' : Int) : (Tr.sat (plainQ (.bool (.sym (amongB l n')))) (run (env (G7 ++ rest) []) [(2, LAmong l n')] (bodyOf Tryd.f11) (start [.ro .i64 l, .int .i64 (.full n')] 18) (ends (env (G7 ++ rest) []) Tryd.f11.results.toList))) = (
  RQ (List.length l ≤ 1000000 ∧ l = l ∧ n' = n' ∧ (0 : Int) = ((0 : Nat) : Int)) (IT (!amongB l n') (false = amongB l n') (true = amongB l n'))) := by kernel_rfl
set_option maxHeartbeats 4000000 in
theorem cAmong : Con ea has (G7 ++ rest) 11 kAmong := by
  refine plain_mkB Tryd.func11 18 (con := []) trivial (fun hA hr hv => ?_) (by kernel_rfl) (by kernel_rfl) Tryd.ntmps11
  unfold kAmong at hr; split at hr
  · rename_i l n'
    have := ret_ok hr; subst this
    replace hv := hv _ rfl
    refine ⟨_, [(2, LAmong l n'.val)], rfl, rfl, .of (argAmong l n') (by simp), rfl, (fun W R ρ0 own0 hown => hl1 (by kernel_rfl) (by kernel_rfl) (lAmong l n'.val hown)), .of (runAmong rest l n'.val) ?_⟩
    delta RQ IT
    clear hr
    clear hA
    generalize n'.val = m at *
    refine ⟨⟨hv, rfl, rfl, rfl⟩, fun _ => ⟨fun h => ?_, fun h => ?_⟩⟩
    · have h : amongB l m = false := by simpa using h
      rw [h]
    · have h : amongB l m = true := by simpa using h
      rw [h]
  · cases hr
def heavy (l : List Ob) (w : Int) (i : Nat) : Bool := !(!lightB (obN l i).data (obN l i).code (obN l i).map (obN l i).drels (obN l i).crels (obN l i).syms w && noneP (longP (obN l i).syms) (obN l i).syms.length)
def objsB (l : List Ob) (many w : Int) : Bool := !decide (many < (l.length : Int)) && noneP (heavy l w) l.length
def HObjs (l : List Ob) (w : Int) (i : Nat) : SState := { fr := [(0, .ro .obj l), (2, .int .i64 (.full w)), (7, .int .i64 (.sym i 0 1000000))], hp := [], next := 0, sz := 25 }
def XObjs (l : List Ob) (w : Int) : SState := { fr := [], hp := [], next := 0, sz := 25 }
def YObjs (l : List Ob) (w : Int) : SState := { fr := [(6, .bool (.lit false))], hp := [], next := 0, sz := 25 }
def LObjs (l : List Ob) (w : Int) : LSum := ⟨HObjs l w 0, fun k => .ite (noneP (heavy l w) l.length) (k (.exit 0) (XObjs l w)) (k .ret (YObjs l w)), l.length ≤ 1000000 ∧ 0 ≤ w ∧ w ≤ 1000000⟩
theorem bObjs (rest : List (Nat × SVal)) (l : List Ob) (w : Int) (i : Nat) : (Tr.sat (rnd2 (env (G7 ++ rest) [(28, kLight)]) (fun i => noneP (heavy l w) i = true) (l.length) (HObjs l w) 0 (noneP (heavy l w) l.length) (XObjs l w) (YObjs l w) i) (run (env (G7 ++ rest) [(28, kLight)]) [] (loopN (bodyOf Tryd.f9) 0) (HObjs l w i) .leaf)) = (
  IT (decide ((i : Int) < ((List.length l) : Int))) (RQ (0 ≤ (i : Int) ∧ (i : Int) < ((List.length l) : Int)) (RQ (0 ≤ w ∧ w ≤ 1000000) (IT (!(!lightB (List.getD l (Int.toNat (i : Int)) (RT.dflt RT.obj)).data (List.getD l (Int.toNat (i : Int)) (RT.dflt RT.obj)).code (List.getD l (Int.toNat (i : Int)) (RT.dflt RT.obj)).map (List.getD l (Int.toNat (i : Int)) (RT.dflt RT.obj)).drels (List.getD l (Int.toNat (i : Int)) (RT.dflt RT.obj)).crels (List.getD l (Int.toNat (i : Int)) (RT.dflt RT.obj)).syms w && noneP (longP (List.getD l (Int.toNat (i : Int)) (RT.dflt RT.obj)).syms) (List.length (List.getD l (Int.toNat (i : Int)) (RT.dflt RT.obj)).syms))) (noneP (heavy l w) (List.length l) = false ∧ false = false) (i < List.length l ∧ noneP (heavy l w) (i + 1) = true ∧ l = l ∧ w = w ∧ (i : Int) + 1 = ((i + 1) : Int) ∧ 0 ≤ ((i + 1) : Int) ∧ ((i + 1) : Int) ≤ 1000000)))) (Nat.beq (0 : Nat) (0 : Nat) = true ∧ noneP (heavy l w) (List.length l) = true ∧ True)) := by kernel_rfl
set_option maxHeartbeats 4000000 in
theorem lObjs (l : List Ob) (w : Int) {W : World} {R own0 : Nat → Prop} {ρ0 : Nat → Option Value} (hown : HownOk (env (G7 ++ rest) [(28, kLight)]) own0 ρ0) : LOk Tryd.prog (env (G7 ++ rest) [(28, kLight)]) (ctx ea has) (G7 ++ rest) W R own0 ρ0 (loopN (bodyOf Tryd.f9) 0) (LObjs l w) := by
  refine loop2_ok (J := fun i => noneP (heavy l w) i = true) (N := l.length) (H := HObjs l w) (X := XObjs l w) (Y := YObjs l w) (env_ok (con := [(28, kLight)]) ⟨cLight, trivial⟩) hown (ls := fun i => []) (fun i => noSums (by kernel_rfl)) (fun hm i hi hj => ?_) 0 (fun hm => by first | exact Nat.zero_le _ | omega) (fun hm => rfl)
  rw [bObjs rest l w i]
  delta RQ IT
  simp only [Int.toNat_natCast, eq_self, true_and, and_true]
  obtain ⟨h1, h2, h3⟩ := hm
  refine ⟨fun h => ?_, fun h => ?_⟩
  · have h := of_decide_eq_true h
    have hlt : i < l.length := by omega
    refine ⟨by omega, fun _ => ⟨⟨h2, h3⟩, fun _ => ⟨fun g1 => ?_, fun g1 => ?_⟩⟩⟩
    · exact noneP_at (p := heavy l w) g1 hlt
    · have g1 : heavy l w i = false := g1
      refine ⟨hlt, by rw [noneP, hj, g1]; rfl, ?_⟩
      first | exact ⟨by omega, by omega, by omega⟩ | exact ⟨by omega, by omega⟩
  · have h := of_decide_eq_false h
    have : i = l.length := by omega
    subst this
    exact ⟨rfl, hj⟩
def kObjects : List SVal → Nat → Acc ORes := fun a n => match a with | [.ro .obj l, .int .i64 many, .int .i64 w] => .ret ({ v := .bool (.sym (objsB l many.val w.val)), vc := some (many.val ≤ 1000000 ∧ 0 ≤ w.val ∧ w.val ≤ 1000000) }) | _ => .fail "Objects"
theorem argObjects (l : List Ob) (many w : SI) : (all (subL tAtN none' [] deep [.ro .obj l, .int .i64 many, .int .i64 w] [.ro .obj l, .int .i64 (.full many.val), .int .i64 (.full w.val)])) = (
  l = l ∧ SI.val many = SI.val many ∧ SI.val w = SI.val w) := by kernel_rfl
theorem runObjects (rest : List (Nat × SVal)) (l : List Ob) (many : Int) (w : Int) : (Tr.sat (plainQ (.bool (.sym (objsB l many w)))) (run (env (G7 ++ rest) [(28, kLight)]) [(4, LObjs l w)] (bodyOf Tryd.f9) (start [.ro .obj l, .int .i64 (.full many), .int .i64 (.full w)] 25) (ends (env (G7 ++ rest) [(28, kLight)]) Tryd.f9.results.toList))) = (
  IT (decide (many < ((List.length l) : Int))) (false = objsB l many w) (RQ ((List.length l ≤ 1000000 ∧ 0 ≤ w ∧ w ≤ 1000000) ∧ l = l ∧ w = w ∧ (0 : Int) = ((0 : Nat) : Int)) (IT (noneP (heavy l w) (List.length l)) (true = objsB l many w) (false = objsB l many w)))) := by kernel_rfl
set_option maxHeartbeats 4000000 in
theorem cObjects : Con ea has (G7 ++ rest) 9 kObjects := by
  refine plain_mkB Tryd.func9 25 (con := [(28, kLight)]) ⟨cLight, trivial⟩ (fun hA hr hv => ?_) (by kernel_rfl) (by kernel_rfl) Tryd.ntmps9
  unfold kObjects at hr; split at hr
  · rename_i l many w
    have := ret_ok hr; subst this
    replace hv := hv _ rfl
    refine ⟨_, [(4, LObjs l w.val)], rfl, rfl, .of (argObjects l many w) (by simp), rfl, (fun W R ρ0 own0 hown => hl1 (by kernel_rfl) (by kernel_rfl) (lObjs l w.val hown)), .of (runObjects rest l many.val w.val) ?_⟩
    delta RQ IT
    clear hr
    clear hA
    generalize many.val = m at *
    generalize w.val = w at *
    obtain ⟨h1, h2, h3⟩ := hv
    unfold objsB
    refine ⟨fun h => ?_, fun h => ?_⟩
    · rw [h]; rfl
    · have h' := of_decide_eq_false h
      rw [h]
      refine ⟨⟨⟨by omega, h2, h3⟩, rfl, rfl, rfl⟩, fun _ => ⟨fun g => ?_, fun g => ?_⟩⟩
      · rw [g]; rfl
      · rw [g]; rfl
  · cases hr
abbrev kLinkF := frz [.ro .obj] kLinkC
theorem cLinkF : Con ea has (G7 ++ rest) 10 kLinkF := frz_ok cLinkC _
def kfirst13 : List SVal → Nat → Acc ORes := fun a n => match a with | [] => .ret ({ v := .bool (.lit true) }) | _ => .fail "first13"
theorem argfirst13  : (all (subL tAtN none' [] deep [] [])) = (
  True) := by kernel_rfl
theorem runfirst13 (rest : List (Nat × SVal)) : (Tr.sat (plainQ (.bool (.lit true))) (run (env (G7 ++ rest) [(15, kAt), (17, kOp), (18, kObjectRF), (10, kLinkF)]) [] (bodyOf Tryd.f8) (start [] 25) (ends (env (G7 ++ rest) [(15, kAt), (17, kOp), (18, kObjectRF), (10, kLinkF)]) Tryd.f8.results.toList))) = (
  RQ (List.length [Ln.mk (In5.mk (0 : Int) (0 : Int) (0 : Int) (0 : Int) (0 : Int)) (ByteArray.mk #[(109 : UInt8), (97 : UInt8), (105 : UInt8), (110 : UInt8)]) ByteArray.empty false, opL (1 : Int) (nilR RT.i64)] ≤ 100000 ∧ shortN (@List.nil (RT.ty RT.u32))) (true = true)) := by kernel_rfl
set_option maxHeartbeats 4000000 in
theorem cfirst13 : Con ea has (G7 ++ rest) 8 kfirst13 := by
  refine plain_mkB Tryd.func8 25 (con := [(15, kAt), (17, kOp), (18, kObjectRF), (10, kLinkF)]) ⟨cAt, cOp, cObjectRF, cLinkF, trivial⟩ (fun hA hr hv => ?_) (by kernel_rfl) (by kernel_rfl) Tryd.ntmps8
  unfold kfirst13 at hr; split at hr
  · skip
    have := ret_ok hr; subst this
    refine ⟨_, [], rfl, rfl, .of (argfirst13 ) (by simp), rfl, (fun W R ρ0 own0 hown => noSums (by kernel_rfl)), .of (runfirst13 rest ) ?_⟩
    delta RQ
    clear hr
    exact ⟨⟨by simp, Nat.zero_le _⟩, fun _ => rfl⟩
  · cases hr
end
end Go.Proofs.YtacmmedhjebfjaaDoor
set_option linter.unusedVariables false
set_option linter.unusedSimpArgs false
set_option linter.unusedSectionVars false
namespace Go.Proofs.YtacmmedhjebfjaaDoor
open Go.RowKit Go.Sy Go.Fac
section
variable {ea : Ear} {has : Int → Prop} {rest : List (Nat × SVal)} [ht : Nonempty (EType ea)]
theorem getD_mem {α : Type} {l : List α} {i : Nat} (d : α) (h : i < l.length) : l.getD i d ∈ l := by
  rw [List.getD_eq_getElem?_getD, List.getElem?_eq_getElem h]; exact List.getElem_mem h
theorem img_few {l : List Ob} {g : Glb} (K : LkOk l g) : (imgM l g).code.length ≤ 2048 ∧ (imgM l g).places.length ≤ 4096 ∧ (imgM l g).starts.length ≤ 2048 ∧ (imgM l g).drefs.length ≤ 16384 ∧ (imgM l g).data.length ≤ 2048 := by
  have h := ptN_len l g (itF l g).length
  have hb := K.bs
  obtain ⟨_, e2, e3⟩ := ptN_entry l g (itF l g).length
  have e2 : (imgM l g).data = (dtO l g l.length).1 := e2
  have e3 : (imgM l g).drefs = (dtO l g l.length).2 := e3
  have h2 := dtO_len l g l.length
  have h3 := dtO_ref K.nm l.length (Nat.le_refl _)
  have h4 := K.nm.few
  have h5 := code_len K
  have h6 := K.plN (n := oBs l l.length) (by omega)
  have h7 : (imgM l g).places.length ≤ 2 * (itF l g).length := h.2.1
  have h8 : (imgM l g).starts.length ≤ (itF l g).length := h.2.2
  rw [e2, e3]
  omega
def HgoA (l : List Ob) (i : Nat) : SState := { fr := [(3, .bool (.lit true)), (4, .ptr 0 0), (6, .int .i64 (.sym i 0 1000000))], hp := [(0, some (.cells (imgV (imgM l (nmG l)))))], next := 1, sz := 198 }
def XgoA (l : List Ob) : SState := { fr := [(3, .bool (.lit true)), (4, .ptr 0 0)], hp := [(0, some (.cells (imgV (imgM l (nmG l)))))], next := 1, sz := 198 }
def LgoA (l : List Ob) : LSum := ⟨HgoA l 0, fun k => k (.exit 0) (XgoA l), LkOk l (nmG l) ∧ NoData l (nmG l)⟩
theorem bgoA (rest : List (Nat × SVal)) (l : List Ob) (i : Nat) : (Tr.sat (rnd1 (env (G7 ++ rest) [(8, kfirst13), (9, kObjects), (10, kLinkC), (11, kAmong), (12, krOf), (13, krDisp)]) (fun _ => True) ((imgM l (nmG l)).places.length) (HgoA l) 0 (XgoA l) i) (run (env (G7 ++ rest) [(8, kfirst13), (9, kObjects), (10, kLinkC), (11, kAmong), (12, krOf), (13, krDisp)]) [] (loopN (bodyOf Tryd.f3) 0) (HgoA l i) .leaf)) = (
  IT (decide ((i : Int) < ((List.length (imgM l (nmG l)).places) : Int))) (RQ (0 ≤ (i : Int) ∧ (i : Int) < ((List.length (imgM l (nmG l)).places) : Int)) (RQ ((!(decide (List.getD (imgM l (nmG l)).places (Int.toNat (i : Int)) (RT.dflt RT.i64) < 0) || decide (((List.length (imgM l (nmG l)).code) : Int) ≤ List.getD (imgM l (nmG l)).places (Int.toNat (i : Int)) (RT.dflt RT.i64)))) = true → 0 ≤ List.getD (imgM l (nmG l)).places (Int.toNat (i : Int)) (RT.dflt RT.i64) ∧ List.getD (imgM l (nmG l)).places (Int.toNat (i : Int)) (RT.dflt RT.i64) < ((List.length (imgM l (nmG l)).code) : Int)) (RQ ((!(decide (List.getD (imgM l (nmG l)).places (Int.toNat (i : Int)) (RT.dflt RT.i64) < 0) || decide (((List.length (imgM l (nmG l)).code) : Int) ≤ List.getD (imgM l (nmG l)).places (Int.toNat (i : Int)) (RT.dflt RT.i64)))) = true → List.length (imgM l (nmG l)).starts ≤ 1000000) (IT (decide (List.getD (imgM l (nmG l)).places (Int.toNat (i : Int)) (RT.dflt RT.i64) < 0) || decide (((List.length (imgM l (nmG l)).code) : Int) ≤ List.getD (imgM l (nmG l)).places (Int.toNat (i : Int)) (RT.dflt RT.i64)) || !amongB (imgM l (nmG l)).starts (List.getD (imgM l (nmG l)).code (Int.toNat (List.getD (imgM l (nmG l)).places (Int.toNat (i : Int)) (RT.dflt RT.i64))) (RT.dflt RT.u32) - 2048)) False (i < List.length (imgM l (nmG l)).places ∧ True ∧ true = true ∧ (i : Int) + 1 = ((i + 1) : Int) ∧ (0 ≤ ((i + 1) : Int) ∧ ((i + 1) : Int) ≤ 1000000) ∧ (imgM l (nmG l)).entry = (imgM l (nmG l)).entry ∧ (imgM l (nmG l)).data = (imgM l (nmG l)).data ∧ (imgM l (nmG l)).code = (imgM l (nmG l)).code ∧ (imgM l (nmG l)).drefs = (imgM l (nmG l)).drefs ∧ (imgM l (nmG l)).places = (imgM l (nmG l)).places ∧ (imgM l (nmG l)).starts = (imgM l (nmG l)).starts))))) (Nat.beq (0 : Nat) (0 : Nat) = true ∧ true = true ∧ (imgM l (nmG l)).entry = (imgM l (nmG l)).entry ∧ (imgM l (nmG l)).data = (imgM l (nmG l)).data ∧ (imgM l (nmG l)).code = (imgM l (nmG l)).code ∧ (imgM l (nmG l)).drefs = (imgM l (nmG l)).drefs ∧ (imgM l (nmG l)).places = (imgM l (nmG l)).places ∧ (imgM l (nmG l)).starts = (imgM l (nmG l)).starts)) := by kernel_rfl
set_option maxHeartbeats 4000000 in
theorem lgoA (l : List Ob) {W : World} {R own0 : Nat → Prop} {ρ0 : Nat → Option Value} (hown : HownOk (env (G7 ++ rest) [(8, kfirst13), (9, kObjects), (10, kLinkC), (11, kAmong), (12, krOf), (13, krDisp)]) own0 ρ0) : LOk Tryd.prog (env (G7 ++ rest) [(8, kfirst13), (9, kObjects), (10, kLinkC), (11, kAmong), (12, krOf), (13, krDisp)]) (ctx ea has) (G7 ++ rest) W R own0 ρ0 (loopN (bodyOf Tryd.f3) 0) (LgoA l) := by
  refine loop1_ok (J := fun _ => True) (N := (imgM l (nmG l)).places.length) (H := HgoA l) (X := XgoA l) (env_ok (con := [(8, kfirst13), (9, kObjects), (10, kLinkC), (11, kAmong), (12, krOf), (13, krDisp)]) ⟨cfirst13, cObjects, cLinkC, cAmong, crOf, crDisp, trivial⟩) hown (ls := fun i => []) (fun i => noSums (by kernel_rfl)) (fun hm i hi hj => ?_) 0 (fun hm => by first | exact Nat.zero_le _ | omega) (fun hm => trivial)
  rw [bgoA rest l i]
  delta RQ IT
  simp only [Int.toNat_natCast, eq_self, true_and, and_true]
  obtain ⟨K, T⟩ := hm
  have B := img_few K
  refine ⟨fun h => ?_, fun h => ?_⟩
  · have h := of_decide_eq_true h
    have hlt : i < (imgM l (nmG l)).places.length := by omega
    have hmem : (imgM l (nmG l)).places.getD i RT.i64.dflt ∈ (imgM l (nmG l)).places := getD_mem _ hlt
    obtain ⟨g1, g2, g3⟩ := goes_places K T hmem
    refine ⟨by omega, fun _ => ⟨fun _ => ⟨g1, g2⟩, fun _ => ⟨fun _ => by omega, fun _ => ⟨fun g => ?_, fun _ => ⟨hlt, by omega, by omega⟩⟩⟩⟩⟩
    rw [Bool.or_eq_true, Bool.or_eq_true, decide_eq_true_eq, decide_eq_true_eq, Bool.not_eq_true'] at g
    rcases g with (g | g) | g
    · omega
    · exact absurd g2 (by omega)
    · exact Bool.noConfusion (g.symm.trans (amongB_iff.2 g3))
  · exact rfl
def HgoB (l : List Ob) (i : Nat) : SState := { fr := [(3, .bool (.lit true)), (4, .ptr 0 0), (8, .int .i64 (.sym i 0 1000000))], hp := [(0, some (.cells (imgV (imgM l (nmG l)))))], next := 1, sz := 198 }
def XgoB (l : List Ob) : SState := { fr := [(3, .bool (.lit true)), (4, .ptr 0 0)], hp := [(0, some (.cells (imgV (imgM l (nmG l)))))], next := 1, sz := 198 }
def LgoB (l : List Ob) : LSum := ⟨HgoB l 0, fun k => k (.exit 2) (XgoB l), LkOk l (nmG l) ∧ NoData l (nmG l)⟩
theorem bgoB (rest : List (Nat × SVal)) (l : List Ob) (i : Nat) : (Tr.sat (rnd1 (env (G7 ++ rest) [(8, kfirst13), (9, kObjects), (10, kLinkC), (11, kAmong), (12, krOf), (13, krDisp)]) (fun _ => True) ((imgM l (nmG l)).drefs.length) (HgoB l) 2 (XgoB l) i) (run (env (G7 ++ rest) [(8, kfirst13), (9, kObjects), (10, kLinkC), (11, kAmong), (12, krOf), (13, krDisp)]) [] (loopN (bodyOf Tryd.f3) 1) (HgoB l i) .leaf)) = (
  IT (decide ((i : Int) < ((List.length (imgM l (nmG l)).drefs) : Int))) (RQ (0 ≤ (i : Int) ∧ (i : Int) < ((List.length (imgM l (nmG l)).drefs) : Int)) (RQ ((!(decide (List.getD (imgM l (nmG l)).drefs (Int.toNat (i : Int)) (RT.dflt RT.i64) < 0) || decide (((List.length (imgM l (nmG l)).data) : Int) ≤ List.getD (imgM l (nmG l)).drefs (Int.toNat (i : Int)) (RT.dflt RT.i64)))) = true → 0 ≤ List.getD (imgM l (nmG l)).drefs (Int.toNat (i : Int)) (RT.dflt RT.i64) ∧ List.getD (imgM l (nmG l)).drefs (Int.toNat (i : Int)) (RT.dflt RT.i64) < ((List.length (imgM l (nmG l)).data) : Int)) (RQ ((!(decide (List.getD (imgM l (nmG l)).drefs (Int.toNat (i : Int)) (RT.dflt RT.i64) < 0) || decide (((List.length (imgM l (nmG l)).data) : Int) ≤ List.getD (imgM l (nmG l)).drefs (Int.toNat (i : Int)) (RT.dflt RT.i64)))) = true → List.length (imgM l (nmG l)).starts ≤ 1000000) (IT (decide (List.getD (imgM l (nmG l)).drefs (Int.toNat (i : Int)) (RT.dflt RT.i64) < 0) || decide (((List.length (imgM l (nmG l)).data) : Int) ≤ List.getD (imgM l (nmG l)).drefs (Int.toNat (i : Int)) (RT.dflt RT.i64)) || !amongB (imgM l (nmG l)).starts (List.getD (imgM l (nmG l)).data (Int.toNat (List.getD (imgM l (nmG l)).drefs (Int.toNat (i : Int)) (RT.dflt RT.i64))) (RT.dflt RT.u32) - 2048)) False (i < List.length (imgM l (nmG l)).drefs ∧ True ∧ true = true ∧ (i : Int) + 1 = ((i + 1) : Int) ∧ (0 ≤ ((i + 1) : Int) ∧ ((i + 1) : Int) ≤ 1000000) ∧ (imgM l (nmG l)).entry = (imgM l (nmG l)).entry ∧ (imgM l (nmG l)).data = (imgM l (nmG l)).data ∧ (imgM l (nmG l)).code = (imgM l (nmG l)).code ∧ (imgM l (nmG l)).drefs = (imgM l (nmG l)).drefs ∧ (imgM l (nmG l)).places = (imgM l (nmG l)).places ∧ (imgM l (nmG l)).starts = (imgM l (nmG l)).starts))))) (Nat.beq (2 : Nat) (2 : Nat) = true ∧ true = true ∧ (imgM l (nmG l)).entry = (imgM l (nmG l)).entry ∧ (imgM l (nmG l)).data = (imgM l (nmG l)).data ∧ (imgM l (nmG l)).code = (imgM l (nmG l)).code ∧ (imgM l (nmG l)).drefs = (imgM l (nmG l)).drefs ∧ (imgM l (nmG l)).places = (imgM l (nmG l)).places ∧ (imgM l (nmG l)).starts = (imgM l (nmG l)).starts)) := by kernel_rfl
set_option maxHeartbeats 4000000 in
theorem lgoB (l : List Ob) {W : World} {R own0 : Nat → Prop} {ρ0 : Nat → Option Value} (hown : HownOk (env (G7 ++ rest) [(8, kfirst13), (9, kObjects), (10, kLinkC), (11, kAmong), (12, krOf), (13, krDisp)]) own0 ρ0) : LOk Tryd.prog (env (G7 ++ rest) [(8, kfirst13), (9, kObjects), (10, kLinkC), (11, kAmong), (12, krOf), (13, krDisp)]) (ctx ea has) (G7 ++ rest) W R own0 ρ0 (loopN (bodyOf Tryd.f3) 1) (LgoB l) := by
  refine loop1_ok (J := fun _ => True) (N := (imgM l (nmG l)).drefs.length) (H := HgoB l) (X := XgoB l) (env_ok (con := [(8, kfirst13), (9, kObjects), (10, kLinkC), (11, kAmong), (12, krOf), (13, krDisp)]) ⟨cfirst13, cObjects, cLinkC, cAmong, crOf, crDisp, trivial⟩) hown (ls := fun i => []) (fun i => noSums (by kernel_rfl)) (fun hm i hi hj => ?_) 0 (fun hm => by first | exact Nat.zero_le _ | omega) (fun hm => trivial)
  rw [bgoB rest l i]
  delta RQ IT
  simp only [Int.toNat_natCast, eq_self, true_and, and_true]
  obtain ⟨K, T⟩ := hm
  have B := img_few K
  refine ⟨fun h => ?_, fun h => ?_⟩
  · have h := of_decide_eq_true h
    have hlt : i < (imgM l (nmG l)).drefs.length := by omega
    have hmem : (imgM l (nmG l)).drefs.getD i RT.i64.dflt ∈ (imgM l (nmG l)).drefs := getD_mem _ hlt
    obtain ⟨g1, g2, g3⟩ := goes_drefs K hmem
    refine ⟨by omega, fun _ => ⟨fun _ => ⟨g1, g2⟩, fun _ => ⟨fun _ => by omega, fun _ => ⟨fun g => ?_, fun _ => ⟨hlt, by omega, by omega⟩⟩⟩⟩⟩
    rw [Bool.or_eq_true, Bool.or_eq_true, decide_eq_true_eq, decide_eq_true_eq, Bool.not_eq_true'] at g
    rcases g with (g | g) | g
    · omega
    · exact absurd g2 (by omega)
    · exact Bool.noConfusion (g.symm.trans (amongB_iff.2 g3))
  · exact rfl
def HgoC (l : List Ob) (i : Nat) : SState := { fr := [(3, .bool (.lit true)), (4, .ptr 0 0), (10, .int .i64 (.sym i 0 1000000))], hp := [(0, some (.cells (imgV (imgM l (nmG l)))))], next := 1, sz := 198 }
def XgoC (l : List Ob) : SState := { fr := [(3, .bool (.lit true)), (4, .ptr 0 0)], hp := [(0, some (.cells (imgV (imgM l (nmG l)))))], next := 1, sz := 198 }
def LgoC (l : List Ob) : LSum := ⟨HgoC l 0, fun k => k (.exit 4) (XgoC l), LkOk l (nmG l) ∧ NoData l (nmG l)⟩
theorem bgoC (rest : List (Nat × SVal)) (l : List Ob) (i : Nat) : (Tr.sat (rnd1 (env (G7 ++ rest) [(8, kfirst13), (9, kObjects), (10, kLinkC), (11, kAmong), (12, krOf), (13, krDisp)]) (fun _ => True) ((imgM l (nmG l)).starts.length) (HgoC l) 4 (XgoC l) i) (run (env (G7 ++ rest) [(8, kfirst13), (9, kObjects), (10, kLinkC), (11, kAmong), (12, krOf), (13, krDisp)]) [] (loopN (bodyOf Tryd.f3) 2) (HgoC l i) .leaf)) = (
  IT (decide ((i : Int) < ((List.length (imgM l (nmG l)).starts) : Int))) (RQ (0 ≤ (i : Int) ∧ (i : Int) < ((List.length (imgM l (nmG l)).starts) : Int)) (RQ (0 ≤ List.getD (imgM l (nmG l)).starts (Int.toNat (i : Int)) (RT.dflt RT.i64) ∧ List.getD (imgM l (nmG l)).starts (Int.toNat (i : Int)) (RT.dflt RT.i64) < ((List.length (imgM l (nmG l)).code) : Int)) (IT (!ofOk (List.getD (imgM l (nmG l)).code (Int.toNat (List.getD (imgM l (nmG l)).starts (Int.toNat (i : Int)) (RT.dflt RT.i64))) (RT.dflt RT.u32))) False (RQ ((decide ((ofF (List.getD (imgM l (nmG l)).code (Int.toNat (List.getD (imgM l (nmG l)).starts (Int.toNat (i : Int)) (RT.dflt RT.i64))) (RT.dflt RT.u32)) (0 : Int)).op = 16) || decide ((ofF (List.getD (imgM l (nmG l)).code (Int.toNat (List.getD (imgM l (nmG l)).starts (Int.toNat (i : Int)) (RT.dflt RT.i64))) (RT.dflt RT.u32)) (0 : Int)).op = 17) || decide ((ofF (List.getD (imgM l (nmG l)).code (Int.toNat (List.getD (imgM l (nmG l)).starts (Int.toNat (i : Int)) (RT.dflt RT.i64))) (RT.dflt RT.u32)) (0 : Int)).op = 18)) = true → List.length (imgM l (nmG l)).starts ≤ 1000000) (IT ((decide ((ofF (List.getD (imgM l (nmG l)).code (Int.toNat (List.getD (imgM l (nmG l)).starts (Int.toNat (i : Int)) (RT.dflt RT.i64))) (RT.dflt RT.u32)) (0 : Int)).op = 16) || decide ((ofF (List.getD (imgM l (nmG l)).code (Int.toNat (List.getD (imgM l (nmG l)).starts (Int.toNat (i : Int)) (RT.dflt RT.i64))) (RT.dflt RT.u32)) (0 : Int)).op = 17) || decide ((ofF (List.getD (imgM l (nmG l)).code (Int.toNat (List.getD (imgM l (nmG l)).starts (Int.toNat (i : Int)) (RT.dflt RT.i64))) (RT.dflt RT.u32)) (0 : Int)).op = 18)) && !amongB (imgM l (nmG l)).starts (IntKind.wrap IntKind.i64 (List.getD (imgM l (nmG l)).starts (Int.toNat (i : Int)) (RT.dflt RT.i64) + dispM (ofF (List.getD (imgM l (nmG l)).code (Int.toNat (List.getD (imgM l (nmG l)).starts (Int.toNat (i : Int)) (RT.dflt RT.i64))) (RT.dflt RT.u32)) (0 : Int)).c))) False (RQ ((decide ((ofF (List.getD (imgM l (nmG l)).code (Int.toNat (List.getD (imgM l (nmG l)).starts (Int.toNat (i : Int)) (RT.dflt RT.i64))) (RT.dflt RT.u32)) (0 : Int)).op = 19) || decide ((ofF (List.getD (imgM l (nmG l)).code (Int.toNat (List.getD (imgM l (nmG l)).starts (Int.toNat (i : Int)) (RT.dflt RT.i64))) (RT.dflt RT.u32)) (0 : Int)).op = 20) || decide ((ofF (List.getD (imgM l (nmG l)).code (Int.toNat (List.getD (imgM l (nmG l)).starts (Int.toNat (i : Int)) (RT.dflt RT.i64))) (RT.dflt RT.u32)) (0 : Int)).op = 21) || decide ((ofF (List.getD (imgM l (nmG l)).code (Int.toNat (List.getD (imgM l (nmG l)).starts (Int.toNat (i : Int)) (RT.dflt RT.i64))) (RT.dflt RT.u32)) (0 : Int)).op = 22)) = true → List.length (imgM l (nmG l)).places ≤ 1000000) (IT ((decide ((ofF (List.getD (imgM l (nmG l)).code (Int.toNat (List.getD (imgM l (nmG l)).starts (Int.toNat (i : Int)) (RT.dflt RT.i64))) (RT.dflt RT.u32)) (0 : Int)).op = 19) || decide ((ofF (List.getD (imgM l (nmG l)).code (Int.toNat (List.getD (imgM l (nmG l)).starts (Int.toNat (i : Int)) (RT.dflt RT.i64))) (RT.dflt RT.u32)) (0 : Int)).op = 20) || decide ((ofF (List.getD (imgM l (nmG l)).code (Int.toNat (List.getD (imgM l (nmG l)).starts (Int.toNat (i : Int)) (RT.dflt RT.i64))) (RT.dflt RT.u32)) (0 : Int)).op = 21) || decide ((ofF (List.getD (imgM l (nmG l)).code (Int.toNat (List.getD (imgM l (nmG l)).starts (Int.toNat (i : Int)) (RT.dflt RT.i64))) (RT.dflt RT.u32)) (0 : Int)).op = 22)) && !amongB (imgM l (nmG l)).places (IntKind.wrap IntKind.i64 (List.getD (imgM l (nmG l)).starts (Int.toNat (i : Int)) (RT.dflt RT.i64) + 1))) False (i < List.length (imgM l (nmG l)).starts ∧ True ∧ true = true ∧ (i : Int) + 1 = ((i + 1) : Int) ∧ (0 ≤ ((i + 1) : Int) ∧ ((i + 1) : Int) ≤ 1000000) ∧ (imgM l (nmG l)).entry = (imgM l (nmG l)).entry ∧ (imgM l (nmG l)).data = (imgM l (nmG l)).data ∧ (imgM l (nmG l)).code = (imgM l (nmG l)).code ∧ (imgM l (nmG l)).drefs = (imgM l (nmG l)).drefs ∧ (imgM l (nmG l)).places = (imgM l (nmG l)).places ∧ (imgM l (nmG l)).starts = (imgM l (nmG l)).starts)))))))) (Nat.beq (4 : Nat) (4 : Nat) = true ∧ true = true ∧ (imgM l (nmG l)).entry = (imgM l (nmG l)).entry ∧ (imgM l (nmG l)).data = (imgM l (nmG l)).data ∧ (imgM l (nmG l)).code = (imgM l (nmG l)).code ∧ (imgM l (nmG l)).drefs = (imgM l (nmG l)).drefs ∧ (imgM l (nmG l)).places = (imgM l (nmG l)).places ∧ (imgM l (nmG l)).starts = (imgM l (nmG l)).starts)) := by kernel_rfl
set_option maxHeartbeats 4000000 in
theorem lgoC (l : List Ob) {W : World} {R own0 : Nat → Prop} {ρ0 : Nat → Option Value} (hown : HownOk (env (G7 ++ rest) [(8, kfirst13), (9, kObjects), (10, kLinkC), (11, kAmong), (12, krOf), (13, krDisp)]) own0 ρ0) : LOk Tryd.prog (env (G7 ++ rest) [(8, kfirst13), (9, kObjects), (10, kLinkC), (11, kAmong), (12, krOf), (13, krDisp)]) (ctx ea has) (G7 ++ rest) W R own0 ρ0 (loopN (bodyOf Tryd.f3) 2) (LgoC l) := by
  refine loop1_ok (J := fun _ => True) (N := (imgM l (nmG l)).starts.length) (H := HgoC l) (X := XgoC l) (env_ok (con := [(8, kfirst13), (9, kObjects), (10, kLinkC), (11, kAmong), (12, krOf), (13, krDisp)]) ⟨cfirst13, cObjects, cLinkC, cAmong, crOf, crDisp, trivial⟩) hown (ls := fun i => []) (fun i => noSums (by kernel_rfl)) (fun hm i hi hj => ?_) 0 (fun hm => by first | exact Nat.zero_le _ | omega) (fun hm => trivial)
  rw [bgoC rest l i]
  delta RQ IT
  simp only [Int.toNat_natCast, eq_self, true_and, and_true]
  obtain ⟨K, T⟩ := hm
  have B := img_few K
  refine ⟨fun h => ?_, fun h => ?_⟩
  · have h := of_decide_eq_true h
    have hlt : i < (imgM l (nmG l)).starts.length := by omega
    have hmem : (imgM l (nmG l)).starts.getD i RT.i64.dflt ∈ (imgM l (nmG l)).starts := getD_mem _ hlt
    obtain ⟨g1, g2, g3, g4, g5⟩ := goes_starts K T hmem
    have d0 : RT.u32.dflt = (0 : Int) := rfl
    rw [d0]
    have g2' : (imgM l (nmG l)).starts.getD i RT.i64.dflt < 2048 := by
      have : (imgM l (nmG l)).starts.getD i RT.i64.dflt < ((imgM l (nmG l)).code.length : Int) := g2
      omega
    have wid : ∀ p d : Int, 0 ≤ p → p < 2048 → -128 ≤ d → d ≤ 127 → IntKind.i64.wrap (p + d) = p + d := fun p d h1 h2 h3 h4 => by rw [IntKind.wrap_i64]; omega
    have eO : ∀ c, ofOk c = true → (ofF c 0).op = c / 16777216 ∧ (ofF c 0).c = c % 256 := fun c h => by unfold ofF; rw [if_pos h]; exact ⟨rfl, rfl⟩
    refine ⟨by omega, fun _ => ⟨⟨g1, g2⟩, fun _ => ⟨fun h => (by rw [g3] at h; cases h), fun _ => ⟨fun _ => by omega, fun _ => ⟨fun g => ?_, fun _ => ⟨fun _ => by omega, fun _ => ⟨fun g => ?_, fun _ => ⟨hlt, by omega, by omega⟩⟩⟩⟩⟩⟩⟩⟩
    · rw [Bool.and_eq_true, Bool.not_eq_true', (eO _ g3).2, wid _ _ g1 g2' (dispM_in _).1 (dispM_in _).2] at g
      have sh := g4 (by rw [← (eO _ g3).1]; exact g.1)
      exact Bool.noConfusion (g.2.symm.trans (amongB_iff.2 sh))
    · rw [Bool.and_eq_true, Bool.not_eq_true', wid _ 1 g1 g2' (by decide) (by decide)] at g
      have sh := g5 (by rw [← (eO _ g3).1]; exact g.1)
      exact Bool.noConfusion (g.2.symm.trans (amongB_iff.2 sh))
  · exact rfl
def kLinkGoes : List SVal → Nat → Acc ORes := fun a n => match a with | [.ro .obj l] => .ret ({ v := .bool (.lit true) }) | _ => .fail "LinkGoes"
theorem argLinkGoes (l : List Ob) : (all (subL tAtN none' [] deep [.ro .obj l] [.ro .obj l])) = (
  l = l) := by kernel_rfl
theorem runLinkGoes (rest : List (Nat × SVal)) (l : List Ob) : (Tr.sat (plainQ (.bool (.lit true))) (run (env (G7 ++ rest) [(8, kfirst13), (9, kObjects), (10, kLinkC), (11, kAmong), (12, krOf), (13, krDisp)]) [(10, LgoA l), (16, LgoB l), (22, LgoC l)] (bodyOf Tryd.f3) (start [.ro .obj l] 198) (ends (env (G7 ++ rest) [(8, kfirst13), (9, kObjects), (10, kLinkC), (11, kAmong), (12, krOf), (13, krDisp)]) Tryd.f3.results.toList))) = (
  RQ ((4 : Int) ≤ (1000000 : Int) ∧ (0 : Int) ≤ (150 : Int) ∧ (150 : Int) ≤ (1000000 : Int)) (IT (!objsB l (4 : Int) (150 : Int)) (true = true) (IT (!!FErr.isErr (laidE l)) (decide (((List.length (linkI l).code) : Int) = 0) = true) (RQ ((LkOk l (nmG l) ∧ NoData l (nmG l)) ∧ true = true ∧ (0 : Int) = ((0 : Nat) : Int) ∧ (linkI l).entry = (imgM l (nmG l)).entry ∧ (linkI l).data = (imgM l (nmG l)).data ∧ (linkI l).code = (imgM l (nmG l)).code ∧ (linkI l).drefs = (imgM l (nmG l)).drefs ∧ (linkI l).places = (imgM l (nmG l)).places ∧ (linkI l).starts = (imgM l (nmG l)).starts) (RQ ((LkOk l (nmG l) ∧ NoData l (nmG l)) ∧ true = true ∧ (0 : Int) = ((0 : Nat) : Int) ∧ (imgM l (nmG l)).entry = (imgM l (nmG l)).entry ∧ (imgM l (nmG l)).data = (imgM l (nmG l)).data ∧ (imgM l (nmG l)).code = (imgM l (nmG l)).code ∧ (imgM l (nmG l)).drefs = (imgM l (nmG l)).drefs ∧ (imgM l (nmG l)).places = (imgM l (nmG l)).places ∧ (imgM l (nmG l)).starts = (imgM l (nmG l)).starts) (RQ ((LkOk l (nmG l) ∧ NoData l (nmG l)) ∧ true = true ∧ (0 : Int) = ((0 : Nat) : Int) ∧ (imgM l (nmG l)).entry = (imgM l (nmG l)).entry ∧ (imgM l (nmG l)).data = (imgM l (nmG l)).data ∧ (imgM l (nmG l)).code = (imgM l (nmG l)).code ∧ (imgM l (nmG l)).drefs = (imgM l (nmG l)).drefs ∧ (imgM l (nmG l)).places = (imgM l (nmG l)).places ∧ (imgM l (nmG l)).starts = (imgM l (nmG l)).starts) (RQ (List.length (imgM l (nmG l)).starts ≤ 1000000) ((amongB (imgM l (nmG l)).starts ((imgM l (nmG l)).entry - 2048) && decide (((List.length (imgM l (nmG l)).data) : Int) ≤ 2048) && decide (((List.length (imgM l (nmG l)).code) : Int) ≤ 2048)) = true)))))))) := by kernel_rfl
set_option maxHeartbeats 4000000 in
theorem cLinkGoes : Con ea has (G7 ++ rest) 3 kLinkGoes := by
  refine plain_mkB Tryd.func3 198 (con := [(8, kfirst13), (9, kObjects), (10, kLinkC), (11, kAmong), (12, krOf), (13, krDisp)]) ⟨cfirst13, cObjects, cLinkC, cAmong, crOf, crDisp, trivial⟩ (fun hA hr hv => ?_) (by kernel_rfl) (by kernel_rfl) Tryd.ntmps3
  unfold kLinkGoes at hr; split at hr
  · rename_i l
    have := ret_ok hr; subst this
    refine ⟨_, [(10, LgoA l), (16, LgoB l), (22, LgoC l)], rfl, rfl, .of (argLinkGoes l) (by simp), rfl, (fun W R ρ0 own0 hown => hl3 (by kernel_rfl) (by kernel_rfl) (lgoA l hown) (by kernel_rfl) (lgoB l hown) (by kernel_rfl) (lgoC l hown)), .of (runLinkGoes rest l) ?_⟩
    delta RQ IT
    clear hr
    clear hA
    have hL : linkI l = _ := linkI.eq_1 l
    refine ⟨⟨by decide, by decide, by decide⟩, fun _ => ⟨fun _ => rfl, fun _ => ⟨fun h => ?_, fun h => ?_⟩⟩⟩
    · have h : (laidE l).isErr = true := by simpa using h
      rw [if_pos h] at hL
      rw [hL]; rfl
    · have h : (laidE l).isErr = false := by simpa using h
      rw [if_neg (by rw [h]; simp)] at hL
      obtain ⟨K, T, hmn⟩ := laid_ok h
      have B := img_few K
      obtain ⟨_, m1, m2⟩ := main_own K.nm hmn
      have me : (imgM l (nmG l)).entry = adrL l (nmG l) (glG (nmG l) mainT) := (ptN_entry l (nmG l) _).1
      have hs := adr_start K m1 m2
      rw [← me] at hs
      rw [hL]
      refine ⟨⟨⟨K, T⟩, rfl, rfl, rfl, rfl, rfl, rfl, rfl, rfl⟩, fun _ => ⟨⟨⟨K, T⟩, rfl, rfl, rfl, rfl, rfl, rfl, rfl, rfl⟩, fun _ => ⟨⟨⟨K, T⟩, rfl, rfl, rfl, rfl, rfl, rfl, rfl, rfl⟩, fun _ => ⟨by omega, fun _ => ?_⟩⟩⟩⟩
      rw [amongB_iff.2 hs, decide_eq_true (by omega), decide_eq_true (by omega)]; rfl
  · cases hr
end
end Go.Proofs.YtacmmedhjebfjaaDoor
set_option linter.unusedVariables false
set_option linter.unusedSimpArgs false
set_option maxRecDepth 100000
namespace Go.Proofs.YtacmmedhjebfjaaDoor
open Go.ChangeShapes Go.RowKit Go.Sy
theorem own : ownKnob Tryd.prog.godebug = none := by kernel_rfl
theorem laidOut : laidOutB Tryd.prog = true := by kernel_rfl
theorem op_i64 : Opens Tryd.prog 3 .i64 := opens_i64 (by kernel_rfl) Tryd.underlying3
theorem op_bool : Opens Tryd.prog 4 .bool := opens_bool (by kernel_rfl) Tryd.underlying4
theorem op_str : Opens Tryd.prog 9 .str := opens_str (by kernel_rfl) Tryd.underlying9
theorem op_u8 : Opens Tryd.prog 5 .u8 := opens_u8 (by kernel_rfl) Tryd.underlying5
theorem op_u32 : Opens Tryd.prog 25 .u32 := opens_u32 (by kernel_rfl) Tryd.underlying25
theorem op_rel : Opens Tryd.prog 69 .rel := opens_rel (by kernel_rfl) Tryd.underlying69 rfl rfl rfl rfl rfl rfl rfl rfl op_i64
theorem op_sym : Opens Tryd.prog 67 .sym := opens_sym (by kernel_rfl) Tryd.underlying67 rfl rfl rfl rfl rfl rfl rfl rfl op_str op_i64 op_bool
section
variable {W : World} {H : Type} {enc : TypeId × Value → H} {C : Ctx} {R : Nat → Prop} {ρ : Nat → Option Value} {base : Nat} {sp : Nat → Bool} {held : Bool} {r : Reach} {b0 : Nat}
end
def txt : DataW Unit → List UInt8
  | .iface _ (.ptr (.agg [.lit (.string s)])) => s
  | _ => []
def L7 : List Snt := [⟨"facade/api.ErrShape", 3, 102, txt Rows.laid_facade_api_ErrShape⟩, ⟨"facade/api.ErrRange", 7, 103, txt Rows.laid_facade_api_ErrRange⟩, ⟨"facade/api.ErrMany", 1, 104, txt Rows.laid_facade_api_ErrMany⟩,
  ⟨"facade/api.ErrOp", 6, 105, txt Rows.laid_facade_api_ErrOp⟩, ⟨"facade/api.ErrTwice", 2, 106, txt Rows.laid_facade_api_ErrTwice⟩, ⟨"facade/api.ErrNone", 0, 107, txt Rows.laid_facade_api_ErrNone⟩, ⟨"facade/api.ErrMap", 4, 109, txt Rows.laid_facade_api_ErrMap⟩]
abbrev nmE : String := "*errors.errorString"
theorem star : "*" ++ "errors.errorString" = nmE := by decide
theorem err_types : ErrTypes Tryd.prog 31 193 214 9 nmE where
  hi := ⟨_, Tryd.underlying31⟩
  row := fun u h => typeName_ptr_named (nm := "errors.errorString") (by rw [star]; kernel_rfl) (by kernel_rfl) (by decide) u (by rw [star]; exact h)
  hp := Tryd.underlying193
  he := ⟨_, Tryd.underlying214, rfl, rfl⟩
  hs := Tryd.underlying9
  ce := by kernel_rfl
  cs := by kernel_rfl
theorem named_of {L : List Snt} (h : (L.all fun x => Tryd.prog.globalNamed x.name == some x.g && (Tryd.prog.globals[x.g]?).map (·.type) == some 31) = true) : ∀ x ∈ L, Tryd.prog.globalNamed x.name = some x.g ∧ (Tryd.prog.globals[x.g]?).map (·.type) = some 31 := fun x hx => by
  have := List.all_eq_true.1 h x hx
  simpa using this
end Go.Proofs.YtacmmedhjebfjaaDoor
