/- Contracts that the proofs use. -/
import Derived.Test.YtacmmedhjebfjaaDoorQLinkFar5
import Derived.Test.YtacmmedhjebfjaaDoorRows
set_option linter.unusedVariables false
set_option linter.unusedSimpArgs false
namespace Go.Proofs.YtacmmedhjebfjaaDoor
open Go.RowKit Go.Sy Go.Fac
theorem rlxN_br (its : List itT.ty) : ∀ k j, (rlxN its k).getD j false = true → itB its j = true
 | 0, j, h => by
  rw [rlxN, List.getD_eq_getElem?_getD, List.getElem?_replicate] at h
  split at h <;> cases h
 | k + 1, j, h => by
  by_cases hj : j < its.length
  ·rw [rlxN, rndU_at its _ (rlxN_len its k) j hj _ hj, Bool.or_eq_true] at h
   rcases h with h | h
   ·exact rlxN_br its k j h
   ·unfold goesL at h; simp only [Bool.and_eq_true] at h; exact h.1.1
  ·rw [getD_none _ _ (by rw [rlxN_len]; omega)] at h; cases h
theorem lo_br {l : List Ob} {g : Glb} {n : Nat} (h : (loF l g).getD n false = true) : itB (itF l g) n = true := rlxN_br _ _ _ h
theorem short_two {op : Int} (h : shortM op = true) : isaTwo op = false := by
 rcases short_op h with h | h | h <;> rw [h] <;> rfl
theorem ItAt.one {l : List Ob} {g : Glb} (G : NmG l g) {n o w : Nat} (I : ItAt l n o w) (hb : itB (itF l g) n = true) : itS (itF l g) n = 1 := by
 obtain ⟨k, _, _, _, _, _, _, k7, k8⟩ := I.br G hb
 rw [(I.words G).1]
 unfold szW twoB
 rw [k7, short_two k8]; rfl
def ckS (l : List Ob) (n : Nat) (p : Int) : List Int := if (obN l (itO l n).1.toNat).map.getD (itO l n).2.toNat 0 = 1 then [p] else []
def wdL (l : List Ob) (g : Glb) (o a : Int) : Nat → List Int
 | 0 => []
 | i + 1 => wdL l g o a i ++ [wdV l g o (a + i)]
def wdP (l : List Ob) (g : Glb) (o a : Int) (p : Int) : Nat → List Int
 | 0 => []
 | i + 1 => wdP l g o a p i ++ if wdC l g o (a + i) = true then [p + i] else []
def ckC (l : List Ob) (g : Glb) (n : Nat) : List Int :=
 if itB (itF l g) n = false then wdL l g (itO l n).1 (itO l n).2 (itS (itF l g) n).toNat
 else if (loF l g).getD n false = true then [wordW ((itI l n).op - 16 + 19) (itI l n).a (itI l n).b 0 (adrL l g (itTo l g n)), adrL l g (itTo l g n)]
 else [wordW (itI l n).op (itI l n).a (itI l n).b (disp8 (plN l g (itG (itF l g) n).toNat - plN l g n)) (itI l n).imm]
def ckP (l : List Ob) (g : Glb) (n : Nat) (p : Int) : List Int :=
 if itB (itF l g) n = false then wdP l g (itO l n).1 (itO l n).2 p (itS (itF l g) n).toNat
 else if (loF l g).getD n false = true then [p + 1] else []
theorem wdL_len (l : List Ob) (g : Glb) (o a : Int) : ∀ i, (wdL l g o a i).length = i
 | 0 => rfl
 | i + 1 => by rw [wdL, List.length_append, wdL_len l g o a i]; rfl
theorem wdN_eq (l : List Ob) (g : Glb) (o a : Int) (x : Img) : ∀ i, wdN l g o a x i = { x with code := x.code ++ wdL l g o a i, places := x.places ++ wdP l g o a x.code.length i }
 | 0 => by simp [wdN, wdL, wdP]
 | i + 1 => by
  rw [wdN, wdN_eq l g o a x i, wdM, wdL, wdP]
  simp only [Img.mk.injEq, true_and, and_true]
  refine ⟨List.append_assoc _ _ _, ?_⟩
  split
  ·simp only [List.length_append, wdL_len]
   rw [List.append_assoc]; congr 2
  ·rw [List.append_nil]
theorem ptM_eq (l : List Ob) (g : Glb) (n : Nat) (x : Img) : ptM l g n x = { x with code := x.code ++ ckC l g n, places := x.places ++ ckP l g n x.code.length, starts := x.starts ++ ckS l n x.code.length } := by
 have hS : ptS l n x = { x with starts := x.starts ++ ckS l n x.code.length } := by
  unfold ptS ckS; split
  ·rfl
  ·simp
 unfold ptM ckC ckP
 rw [hS]
 split
 ·rw [wdN_eq]
 ·split
  ·rfl
  ·simp
theorem ckC_len {l : List Ob} {g : Glb} (G : NmG l g) {n : Nat} (hn : n < oBs l l.length) : ((ckC l g n).length : Int) = itS (itF l g) n + if (loF l g).getD n false = true then 1 else 0 := by
 unfold ckC
 have z := itF_size l g hn
 by_cases hb : itB (itF l g) n = false
 ·rw [if_pos hb, wdL_len, if_neg fun h => by rw [lo_br h] at hb; cases hb]; omega
 ·rw [if_neg hb]
  obtain ⟨o, w, I⟩ := itAt hn
  have := I.one G (by simpa using hb)
  split
  ·rw [this]; rfl
  ·rw [this]; rfl
theorem ptN_pos {l : List Ob} {g : Glb} (G : NmG l g) : ∀ n, n ≤ oBs l l.length → ((ptN l g n).code.length : Int) = plN l g n
 | 0, _ => rfl
 | n + 1, h => by
  have ih := ptN_pos G n (by omega)
  have hc := ckC_len G (show n < oBs l l.length by omega)
  rw [ptN, ptM_eq]
  show (((ptN l g n).code ++ ckC l g n).length : Int) = plS (itF l g) (loF l g) (n + 1)
  rw [List.length_append, plS]
  have : plS (itF l g) (loF l g) n = plN l g n := rfl
  omega
theorem ptN_pre (l : List Ob) (g : Glb) {n : Nat} : ∀ m, n ≤ m → (∃ t, (ptN l g m).code = (ptN l g n).code ++ t) ∧ (∃ t, (ptN l g m).places = (ptN l g n).places ++ t) ∧ (∃ t, (ptN l g m).starts = (ptN l g n).starts ++ t)
 | 0, h => by rw [show n = 0 by omega]; exact ⟨⟨[], by simp⟩, ⟨[], by simp⟩, ⟨[], by simp⟩⟩
 | m + 1, h => by
  by_cases e : n = m + 1
  ·subst e; exact ⟨⟨[], by simp⟩, ⟨[], by simp⟩, ⟨[], by simp⟩⟩
  ·obtain ⟨⟨t1, e1⟩, ⟨t2, e2⟩, ⟨t3, e3⟩⟩ := ptN_pre l g (n := n) m (by omega)
   rw [ptN, ptM_eq]
   refine ⟨⟨t1 ++ ckC l g m, ?_⟩, ⟨t2 ++ ckP l g m (ptN l g m).code.length, ?_⟩, ⟨t3 ++ ckS l m (ptN l g m).code.length, ?_⟩⟩
   ·simp only [e1, List.append_assoc]
   ·simp only [e2, List.append_assoc]
   ·simp only [e3, List.append_assoc]
theorem code_at {l : List Ob} {g : Glb} (K : LkOk l g) {n i : Nat} (hn : n < oBs l l.length) (hi : i < (ckC l g n).length) :
  (imgM l g).code.getD ((plN l g n).toNat + i) 0 = (ckC l g n).getD i 0 ∧ (plN l g n).toNat + i < (imgM l g).code.length := by
 have hb := K.bs
 obtain ⟨⟨t, e⟩, _⟩ := ptN_pre l g (n := n + 1) (itF l g).length (by omega)
 have hp := ptN_pos K.nm n (by omega)
 have e2 : (ptN l g (n + 1)).code = (ptN l g n).code ++ ckC l g n := by rw [ptN, ptM_eq]
 have e3 : (imgM l g).code = (ptN l g n).code ++ (ckC l g n ++ t) := by unfold imgM; rw [e, e2, List.append_assoc]
 have hpl : (plN l g n).toNat = (ptN l g n).code.length := by omega
 rw [e3, hpl]
 refine ⟨?_, by simp only [List.length_append]; omega⟩
 rw [getD_app_r _ _ _ (by omega), Nat.add_sub_cancel_left, getD_app_l _ _ _ hi]
theorem code_len {l : List Ob} {g : Glb} (K : LkOk l g) : ((imgM l g).code.length : Int) = plN l g (oBs l l.length) := by
 unfold imgM; rw [K.bs.2.1]; exact ptN_pos K.nm _ (Nat.le_refl _)
theorem VOb.add {o : Ob} (v : VOb o) {j : Nat} (hj : j < o.crels.length) (ha : (o.crels.getD j RT.rel.dflt).add ≠ 0) : (o.syms.getD (o.crels.getD j RT.rel.dflt).sym.toNat RT.sym.dflt).in_ = 1 := by
 obtain ⟨_, _, _, _, c5, _, _, c8, _⟩ := v.crel hj _ rfl
 unfold shapeB at c8
 rcases c5 with h | h
 ·rw [if_neg (by omega)] at c8
  split at c8
  ·cases c8
  ·rename_i h1
   simp only [Bool.and_eq_true, Bool.not_eq_true', decide_eq_false_iff_not, not_and, Bool.not_eq_false] at h1
   simpa using h1 ha
 ·rw [if_pos h] at c8
  simp only [Bool.and_eq_true, decide_eq_true_eq] at c8
  exact absurd c8.2 ha
end Go.Proofs.YtacmmedhjebfjaaDoor
set_option linter.unusedVariables false
set_option linter.unusedSimpArgs false
namespace Go.Proofs.YtacmmedhjebfjaaDoor
open Go.RowKit Go.Sy Go.Fac
def NoData (l : List Ob) (g : Glb) : Prop := ∀ i, i < l.length → toO l g i = false
theorem NoData.at_ {l : List Ob} {g : Glb} (T : NoData l g) (G : NmG l g) {o k : Nat} (ho : o < l.length) (hk : k < (obN l o).crels.length) (hj : jumpsB (obN l o).code (obN l o).map (relN l o k).at_ (relN l o k).kind = true) :
  Own l (realM l g o (relN l o k).sym) ∧ (symAt l (realM l g o (relN l o k).sym).1 (realM l g o (relN l o k).sym).2).in_ = 2 := by
 have h := T o ho
 unfold toO at h
 rw [decide_eq_false_iff_not, Decidable.not_not] at h
 have h := idxM_all h k hk
 unfold toB at h
 rw [hj, Bool.true_and, decide_eq_false_iff_not] at h
 obtain ⟨_, _, c3, c4, _⟩ := (G.val o ho).crel hk _ rfl
 have O := G.own ho c3 c4
 refine ⟨O, ?_⟩
 obtain ⟨o', s', e, h1, h2, h3⟩ := O
 have e' : realM l g o (relN l o k).sym = ((o' : Int), (s' : Int)) := e
 rw [e'] at h ⊢
 simp only [symAt_nat] at h ⊢
 rcases Own.in12 G h1 h2 h3 with h4 | h4
 ·exact absurd h4 h
 ·exact h4
theorem br_to {l : List Ob} {g : Glb} (G : NmG l g) (T : NoData l g) {n o w : Nat} (I : ItAt l n o w) (hb : itB (itF l g) n = true) :
  Own l (itTo l g n) ∧ (symAt l (itTo l g n).1 (itTo l g n).2).in_ = 2 ∧ itG (itF l g) n = im1 (imL l) (itTo l g n).1 (symAt l (itTo l g n).1 (itTo l g n).2).value := by
 obtain ⟨k, k1, k2, k3, k4, k5, k6, k7, k8⟩ := I.br G hb
 have e : itTo l g n = realM l g o (relN l o k).sym := by unfold itTo; rw [I.own]; simp only; rw [k5]
 obtain ⟨h1, h2⟩ := T.at_ G I.ho k1 (by unfold jumpsB; rw [if_pos k2])
 rw [e]
 exact ⟨h1, h2, k4⟩
theorem VOb.ins {o : Ob} (v : VOb o) {w : Nat} (hw : w < o.map.length) (hm : o.map.getD w 0 = 1) : insB o.code o.map w = true ∧ ofOk (o.code.getD w 0) = true ∧ (insI o.code o.map w) = ofF (o.code.getD w 0) (nextW o.code w) ∧ callB o.code o.map w = false ∧
  (isaTwo (o.code.getD w 0 / 16777216) = true → w + 1 < o.code.length ∧ o.map.getD (w + 1) 0 = 0) ∧ (insI o.code o.map w).op = o.code.getD w 0 / 16777216 := by
 have h := v.words w (by have := v.map; omega)
 unfold wordBE at h
 rw [Int.toNat_natCast, if_pos hm] at h
 split at h
 ·cases h
 ·rename_i h1
  have h1 : (!insB o.code o.map w || callB o.code o.map w) = false := by simpa using h1
  rw [Bool.or_eq_false_iff, Bool.not_eq_false'] at h1
  obtain ⟨h1, h1'⟩ := h1
  have hb := h1
  unfold insB at hb
  rw [Bool.and_eq_true, Int.toNat_natCast] at hb
  have e : insI o.code o.map w = ofF (o.code.getD w 0) (nextW o.code w) := by unfold insI; rw [if_pos hb.1, Int.toNat_natCast]
  have e2 : (insI o.code o.map w).op = o.code.getD w 0 / 16777216 := by rw [e]; unfold ofF; rw [if_pos hb.2]
  refine ⟨h1, hb.2, e, h1', fun ht => ?_, e2⟩
  split at h
  ·cases h
  ·rename_i h2
   rw [e2, ht] at h2
   simp only [Bool.true_and, Bool.or_eq_true, decide_eq_true_eq, not_or, Bool.not_eq_true', decide_eq_false_iff_not, Decidable.not_not] at h2
   have e3 : ((w : Int) + 1).toNat = w + 1 := by omega
   rw [e3] at h2
   exact ⟨by omega, h2.2⟩
theorem VOb.first {o : Ob} (v : VOb o) {j : Nat} (hj : j < o.crels.length) {w : Nat} (hw : (o.crels.getD j RT.rel.dflt).at_ = w) (hm : o.map.getD w 0 = 1) : (o.crels.getD j RT.rel.dflt).kind = 2 := by
 obtain ⟨_, _, _, _, c5, _, _, c8, _⟩ := v.crel hj _ rfl
 rcases c5 with h | h
 ·unfold shapeB at c8
  rw [if_neg (by omega)] at c8
  split at c8
  ·cases c8
  ·rw [hw, Int.toNat_natCast, hm] at c8
   rw [if_neg (by decide)] at c8
   simp at c8
 ·exact h
theorem wordW_val {op a b c i : Int} (h : wordOk op a b c i = true) : wordW op a b c i = op * 16777216 + a * 65536 + b * 256 + c ∧ 0 ≤ a ∧ a ≤ 255 ∧ 0 ≤ b ∧ b ≤ 255 ∧ 0 ≤ c ∧ c ≤ 255 := by
 have hw := h
 unfold wordOk at h
 simp only [Bool.and_eq_true] at h
 obtain ⟨⟨⟨⟨_, g2⟩, g3⟩, g4⟩, _⟩ := h
 have := fits_in g2
 have := fits_in g3
 have := fits_in g4
 unfold wordW; rw [if_pos hw]; unfold wordVal
 exact ⟨rfl, by omega, by omega, by omega, by omega, by omega, by omega⟩
theorem word_dec {op a b c : Int} (ha : 0 ≤ a ∧ a ≤ 255) (hb : 0 ≤ b ∧ b ≤ 255) (hc : 0 ≤ c ∧ c ≤ 255) : (op * 16777216 + a * 65536 + b * 256 + c) / 16777216 = op ∧ (op * 16777216 + a * 65536 + b * 256 + c) / 65536 % 256 = a ∧ (op * 16777216 + a * 65536 + b * 256 + c) / 256 % 256 = b ∧ (op * 16777216 + a * 65536 + b * 256 + c) % 256 = c := by omega
theorem long_ok {op a b : Int} (h : shortM op = true) {c i : Int} (hw : wordOk op a b c 0 = true) : wordOk (op - 16 + 19) a b 0 i = true ∧ wordOk (op - 16 + 19) a b 0 0 = true := by
 unfold wordOk at hw ⊢
 simp only [Bool.and_eq_true] at hw
 obtain ⟨⟨⟨⟨_, g2⟩, g3⟩, _⟩, _⟩ := hw
 rcases short_op h with h | h | h <;> subst h
 ·have e1 : kA 16 = kA 19 := rfl
  have e2 : kB 16 = kB 19 := rfl
  rw [e1] at g2; rw [e2] at g3
  simp only [show (16 : Int) - 16 + 19 = 19 from rfl, g2, g3]
  exact ⟨by simp [isaClass, isaTwo, fitsM, kC, most], by simp [isaClass, isaTwo, fitsM, kC, most]⟩
 ·have e1 : kA 17 = kA 20 := rfl
  have e2 : kB 17 = kB 20 := rfl
  rw [e1] at g2; rw [e2] at g3
  simp only [show (17 : Int) - 16 + 19 = 20 from rfl, g2, g3]
  exact ⟨by simp [isaClass, isaTwo, fitsM, kC, most], by simp [isaClass, isaTwo, fitsM, kC, most]⟩
 ·have e1 : kA 18 = kA 21 := rfl
  have e2 : kB 18 = kB 21 := rfl
  rw [e1] at g2; rw [e2] at g3
  simp only [show (18 : Int) - 16 + 19 = 21 from rfl, g2, g3]
  exact ⟨by simp [isaClass, isaTwo, fitsM, kC, most], by simp [isaClass, isaTwo, fitsM, kC, most]⟩
theorem short_ok {op a b : Int} (h : shortM op = true) {c : Int} (hw : wordOk op a b c 0 = true) {z : Int} (hz : 0 ≤ z ∧ z ≤ 255) : wordOk op a b z 0 = true := by
 unfold wordOk at hw ⊢
 simp only [Bool.and_eq_true] at hw ⊢
 obtain ⟨⟨⟨⟨g1, g2⟩, g3⟩, _⟩, g5⟩ := hw
 refine ⟨⟨⟨⟨g1, g2⟩, g3⟩, ?_⟩, g5⟩
 have e : kC op = 2 := by rcases short_op h with h | h | h <;> rw [h] <;> rfl
 rw [e]
 unfold fitsM most
 simp; omega
theorem disp8_in (z : Int) : 0 ≤ disp8 z ∧ disp8 z ≤ 255 := by unfold disp8; rw [IntKind.wrap_u8]; omega
inductive Became (l : List Ob) (g : Glb) (n o w : Nat) : Prop where
 | same : itB (itF l g) n = false → ckC l g n = wdL l g o w (itS (itF l g) n).toNat → wdV l g o w = (obN l o).code.getD w 0 → Became l g n o w
 | long : itB (itF l g) n = true → (loF l g).getD n false = true → shortM (itI l n).op = true → wordOk ((itI l n).op - 16 + 19) (itI l n).a (itI l n).b 0 0 = true →
   ckC l g n = [((itI l n).op - 16 + 19) * 16777216 + (itI l n).a * 65536 + (itI l n).b * 256 + 0, adrL l g (itTo l g n)] → Became l g n o w
 | short : itB (itF l g) n = true → (loF l g).getD n false = false → shortM (itI l n).op = true → wordOk (itI l n).op (itI l n).a (itI l n).b (disp8 (plN l g (itG (itF l g) n).toNat - plN l g n)) 0 = true →
   ckC l g n = [(itI l n).op * 16777216 + (itI l n).a * 65536 + (itI l n).b * 256 + disp8 (plN l g (itG (itF l g) n).toNat - plN l g n)] → Became l g n o w
theorem became {l : List Ob} {g : Glb} (K : LkOk l g) {n o w : Nat} (I : ItAt l n o w) (hm : (obN l o).map.getD w 0 = 1) : Became l g n o w := by
 have V := K.nm.val o I.ho
 obtain ⟨i1, i2, i3, i4, i5, i6⟩ := V.ins I.hw hm
 have eI : itI l n = insI (obN l o).code (obN l o).map w := by unfold itI; rw [I.own]; simp only [Int.toNat_natCast]
 by_cases hb : itB (itF l g) n = false
 ·refine .same hb (by unfold ckC; rw [if_pos hb, I.own]) ?_
  have hR : wdR l o w = false := by
   cases h : wdR l o w with
   | false => rfl
   | true =>
    unfold wdR at h
    rw [Bool.and_eq_true] at h
    obtain ⟨k, k1, k2, k3⟩ := rH_is I.ho h.1
    have h2 := of_decide_eq_true h.2
    rw [k3] at h2
    have := V.first k1 k2 hm
    have : (relN l o k).kind = 2 := this
    omega
  unfold wdV
  rw [if_neg (by rw [hR]; simp)]
  simp only [Int.toNat_natCast]
 ·have hb : itB (itF l g) n = true := by simpa using hb
  obtain ⟨k, k1, k2, k3, k4, k5, k6, k7, k8⟩ := I.br K.nm hb
  rw [← eI] at k8
  have hw : wordOk (itI l n).op (itI l n).a (itI l n).b (itI l n).c 0 = true := by
   rw [eI, i3]; unfold ofF; rw [if_pos i2]; exact i2
  have himm : (itI l n).imm = 0 := by
   have : isaTwo ((obN l o).code.getD w 0 / 16777216) = false := by rw [← i6, ← eI]; exact short_two k8
   rw [eI, i3]; unfold ofF ofImm; rw [if_pos i2, this]; rfl
  cases hlo : (loF l g).getD n false with
  | true =>
   refine .long hb hlo k8 (long_ok (i := 0) k8 hw).2 ?_
   unfold ckC
   rw [if_neg (by rw [hb]; simp), if_pos hlo, (wordW_val (long_ok k8 hw).1).1]
  | false =>
   have hok := short_ok k8 hw (disp8_in (plN l g (itG (itF l g) n).toNat - plN l g n))
   refine .short hb hlo k8 hok ?_
   unfold ckC
   rw [if_neg (by rw [hb]; simp), if_neg (by rw [hlo]; simp), himm, (wordW_val hok).1]
end Go.Proofs.YtacmmedhjebfjaaDoor
set_option linter.unusedVariables false
set_option linter.unusedSimpArgs false
set_option linter.unusedSectionVars false
namespace Go.Proofs.YtacmmedhjebfjaaDoor
open Go.RowKit Go.Sy Go.Fac
section
variable {ea : Ear} {has : Int → Prop} {rest : List (Nat × SVal)} [ht : Nonempty (EType ea)]
def kTo : List SVal → Nat → Acc ORes := fun a n => match a with | [.int .i64 op, .int .i64 a, .str nm] => .ret ({ v := .agg (RT.line.enc ⟨⟨op.val, a.val, 0, 0, 0⟩, ByteArray.empty, nm, false⟩) }) | _ => .fail "To"
theorem argTo (op a : SI) (nm : ByteArray) : (all (subL tAtN none' [] deep [.int .i64 op, .int .i64 a, .str nm] [.int .i64 (.full op.val), .int .i64 (.full a.val), .str nm])) = (
 SI.val op = SI.val op ∧ SI.val a = SI.val a ∧ nm = nm) := by kernel_rfl
theorem runTo (rest : List (Nat × SVal)) (op : Int) (a : Int) (nm : ByteArray) : (Tr.sat (plainQ (.agg (RT.line.enc ⟨⟨op, a, 0, 0, 0⟩, ByteArray.empty, nm, false⟩))) (run (env (G7 ++ rest) []) [] (bodyOf Tryd.f16) (start [.int .i64 (.full op), .int .i64 (.full a), .str nm] 12) (ends (env (G7 ++ rest) []) Tryd.f16.results.toList))) = (
 op = op ∧ a = a ∧ (0 : Int) = (0 : Int) ∧ (0 : Int) = (0 : Int) ∧ (0 : Int) = (0 : Int) ∧ ByteArray.empty = ByteArray.empty ∧ nm = nm ∧ false = false) := by kernel_rfl
set_option maxHeartbeats 4000000 in
theorem cTo : Con ea has (G7 ++ rest) 16 kTo := by
 refine plain_mkB Tryd.func16 12 (con := []) trivial (fun hA hr hv => ?_) (by kernel_rfl) (by kernel_rfl) Tryd.ntmps16
 unfold kTo at hr; split at hr
 ·rename_i op a nm
  have := ret_ok hr; subst this
  refine ⟨_, [], rfl, rfl, .of (argTo op a nm) (by simp), rfl, (fun W R ρ0 own0 hown => noSums (by kernel_rfl)), .of (runTo rest op.val a.val nm) ?_⟩
  clear hr
  exact ⟨rfl, rfl, rfl, rfl, rfl, rfl, rfl, rfl⟩
 ·cases hr
def kObjectR : List SVal → Nat → Acc ORes := fun a n => match a with | [.ro .u32 dd, .ro .line ls] => .ret ({ v := obV dd (oAll ls).code (oAll ls).map (nilR .rel) (oAll ls).cr (oAll ls).sy, vc := some (ls.length ≤ 100000 ∧ shortN dd) }) | _ => .fail "ObjectR"
theorem argObjectR (dd : List Int) (ls : List Ln) : (all (subL tAtN none' [] deep [.ro .u32 dd, .ro .line ls] [.ro .u32 dd, .ro .line ls])) = (
 dd = dd ∧ ls = ls) := by kernel_rfl
theorem runObjectR (rest : List (Nat × SVal)) (dd : List Int) (ls : List Ln) : (Tr.sat (plainQ (obV dd (oAll ls).code (oAll ls).map (nilR .rel) (oAll ls).cr (oAll ls).sy)) (run (env (G7 ++ rest) [(33, kWords), (34, kSym), (32, krWord), (31, krTwo)]) [(3, LObj dd ls)] (bodyOf Tryd.f18) (start [.ro .u32 dd, .ro .line ls] 132) (ends (env (G7 ++ rest) [(33, kWords), (34, kSym), (32, krWord), (31, krTwo)]) Tryd.f18.results.toList))) = (
 RQ (List.length dd ≤ 1000000) (RQ (List.length ls ≤ 100000 ∧ ls = ls ∧ (0 : Int) = (↑(0 : Nat) : Int) ∧ dd = dd ∧ (oSt ls (0 : Nat)).code = @List.nil (RT.ty RT.u32) ∧ (oSt ls (0 : Nat)).map = @List.nil (RT.ty RT.u8) ∧ (oSt ls (0 : Nat)).cr = @List.nil (RT.ty RT.rel) ∧ (oSt ls (0 : Nat)).sy = @List.nil (RT.ty RT.sym)) (dd = dd ∧ (oAll ls).code = (oAll ls).code ∧ (oAll ls).map = (oAll ls).map ∧ nilR RT.rel = @List.nil (RT.ty RT.rel) ∧ (oAll ls).cr = (oAll ls).cr ∧ (oAll ls).sy = (oAll ls).sy))) := by kernel_rfl
set_option maxHeartbeats 4000000 in
theorem cObjectR : Con ea has (G7 ++ rest) 18 kObjectR := by
 refine plain_mkB Tryd.func18 132 (con := [(33, kWords), (34, kSym), (32, krWord), (31, krTwo)]) ⟨cWords, cSym, crWord, crTwo, trivial⟩ (fun hA hr hv => ?_) (by kernel_rfl) (by kernel_rfl) Tryd.ntmps18
 unfold kObjectR at hr; split at hr
 ·rename_i dd ls
  have := ret_ok hr; subst this
  replace hv := hv _ rfl
  refine ⟨_, [(3, LObj dd ls)], rfl, rfl, .of (argObjectR dd ls) (by simp), rfl, (fun W R ρ0 own0 hown => hl1 (by kernel_rfl) (by kernel_rfl) (lObj dd ls hown)), .of (runObjectR rest dd ls) ?_⟩
  delta RQ
  clear hr
  exact ⟨hv.2, fun _ => ⟨⟨hv.1, rfl, rfl, rfl, rfl, rfl, rfl, rfl⟩, fun _ => ⟨rfl, rfl, rfl, rfl, rfl, rfl⟩⟩⟩
 ·cases hr
abbrev kObjectRF := frz shObj kObjectR
theorem cObjectRF : Con ea has (G7 ++ rest) 18 kObjectRF := frz_ok cObjectR shObj
abbrev kLinkF := frz [.ro .obj] kLinkC
theorem cLinkF : Con ea has (G7 ++ rest) 10 kLinkF := frz_ok cLinkC _
def kfirst13 : List SVal → Nat → Acc ORes := fun a n => match a with | [] => .ret ({ v := .bool (.lit true) }) | _ => .fail "first13"
theorem argfirst13  : (all (subL tAtN none' [] deep [] [])) = (
 True) := by kernel_rfl
theorem runfirst13 (rest : List (Nat × SVal)) : (Tr.sat (plainQ (.bool (.lit true))) (run (env (G7 ++ rest) [(15, kAt), (17, kOp), (18, kObjectRF), (10, kLinkF)]) [] (bodyOf Tryd.f8) (start [] 25) (ends (env (G7 ++ rest) [(15, kAt), (17, kOp), (18, kObjectRF), (10, kLinkF)]) Tryd.f8.results.toList))) = (
 RQ (List.length [Ln.mk (In5.mk (0 : Int) (0 : Int) (0 : Int) (0 : Int) (0 : Int)) (ByteArray.mk #[(109 : UInt8), (97 : UInt8), (105 : UInt8), (110 : UInt8)]) ByteArray.empty false, opL (1 : Int) (nilR RT.i64)] ≤ 100000 ∧ shortN (@List.nil (RT.ty RT.u32))) (true = true)) := by kernel_rfl
set_option maxHeartbeats 4000000 in
theorem cfirst13 : Con ea has (G7 ++ rest) 8 kfirst13 := by
 refine plain_mkB Tryd.func8 25 (con := [(15, kAt), (17, kOp), (18, kObjectRF), (10, kLinkF)]) ⟨cAt, cOp, cObjectRF, cLinkF, trivial⟩ (fun hA hr hv => ?_) (by kernel_rfl) (by kernel_rfl) Tryd.ntmps8
 unfold kfirst13 at hr; split at hr
 ·skip
  have := ret_ok hr; subst this
  refine ⟨_, [], rfl, rfl, .of (argfirst13 ) (by simp), rfl, (fun W R ρ0 own0 hown => noSums (by kernel_rfl)), .of (runfirst13 rest ) ?_⟩
  delta RQ
  clear hr
  exact ⟨⟨by simp, Nat.zero_le _⟩, fun _ => rfl⟩
 ·cases hr
end
end Go.Proofs.YtacmmedhjebfjaaDoor
set_option linter.unusedVariables false
set_option linter.unusedSimpArgs false
namespace Go.Proofs.YtacmmedhjebfjaaDoor
open Go.RowKit Go.Sy Go.Fac
theorem firstE_none {f : Nat → FErr} : ∀ {n : Nat}, (∀ i, i < n → (f i).isErr = false) → firstE f n = .fine
 | 0, _ => rfl
 | n + 1, h => firstE_fine (firstE_none fun i hi => h i (by omega)) (h n (by omega))
theorem vBE_ok {o : Ob} (h1 : o.code.length ≤ 2048) (h2 : o.map.length = o.code.length) (h3 : o.data.length ≤ 2048) (h4 : o.drels.length ≤ 1024) (h5 : o.crels.length ≤ 1024) (h6 : o.syms.length ≤ 256)
  (h7 : ∀ i, i < o.code.length → (wordBE o.code o.map i).isErr = false) (h8 : ∀ i, i < o.syms.length → (syE o.data o.code o.map o.syms i).isErr = false)
  (h9 : ∀ i, i < o.drels.length → (drE o.data o.drels o.syms i).isErr = false) (h10 : ∀ i, i < o.crels.length → (crE o.code o.map o.crels o.syms i).isErr = false) (h11 : ∀ i, i < o.code.length → (needE o.code o.map o.crels i).isErr = false) : vBE o = .fine := by
 have e1 : manyB o.data o.code o.drels o.crels o.syms = false := by
  unfold manyB
  simp only [Bool.or_eq_false_iff, decide_eq_false_iff_not]; omega
 have e3 : firstE (wdBE o.code o.map) o.code.length = .fine := firstE_none h7
 have e4 := firstE_none h8
 have e5 := firstE_none h9
 have e6 := firstE_none h10
 have e7 := firstE_none h11
 unfold vBE validBE relocsE
 rw [if_neg (by rw [e1]; simp), if_neg (by simp; omega), e3, e4, e5, e6, e7]
 simp [FErr.isErr]
def Uniq (l : List Ob) : Prop := ∀ o s o' s' : Nat, o < l.length → o' < l.length → s < (obN l o).syms.length → s' < (obN l o').syms.length → expS (syO l o s) → expS (syO l o' s') → (syO l o s).name = (syO l o' s').name → o = o' ∧ s = s'
theorem nmS_ok {l : List Ob} (U : Uniq l) {i : Nat} (hi : i < l.length) {g : Glb} (h0 : NmI l i 0 g) : ∀ j, j ≤ (obN l i).syms.length → (nmS i (obN l i).syms g j).1 = .fine
 | 0, _ => rfl
 | j + 1, hj => by
  have ih := nmS_ok U hi h0 j (by omega)
  have I := nmS_inv h0 j (by omega) ih
  rw [nmS, if_neg (by rw [ih]; simp [FErr.isErr])]
  show (nmStep i j (syO l i j) _).1 = .fine
  unfold nmStep
  by_cases hx : expB (syO l i j) = false
  ·rw [if_pos hx]
  ·rw [if_neg hx]
   have hx : expS (syO l i j) := expB_iff.1 (by simpa using hx)
   by_cases hh : glH (nmS i (obN l i).syms g j).2 (syO l i j).name = true
   ·obtain ⟨o, s, _, h2, h3, h4, h5⟩ := I.fnd _ hh
    obtain ⟨rfl, rfl⟩ := U o s i j (by omega) hi h3 (by omega) h5 hx h4
    omega
   ·rw [if_neg hh]
theorem nmO_ok {l : List Ob} (U : Uniq l) (hv : ∀ i, i < l.length → vBE (obN l i) = .fine) : ∀ i, i ≤ l.length → (nmO l i).1 = .fine
 | 0, _ => rfl
 | i + 1, h => by
  have ih := nmO_ok U hv i (by omega)
  rw [nmO, if_neg (by rw [ih]; simp [FErr.isErr]), if_neg (by rw [hv i (by omega)]; simp [FErr.isErr])]
  exact nmS_ok U (by omega) (nmO_inv l i ih).1 _ (Nat.le_refl _)
theorem glG_at {l : List Ob} (hf : (nmO l l.length).1 = .fine) {o s : Nat} (ho : o < l.length) (hs : s < (obN l o).syms.length) (hx : expS (syO l o s)) : glH (nmG l) (syO l o s).name = true ∧ glG (nmG l) (syO l o s).name = ((o : Int), (s : Int)) :=
 (nmO_inv l _ hf).1.all o s (.inl ho) hs hx
theorem real_self {l : List Ob} {g : Glb} {i s : Nat} (h : (syO l i s).in_ ≠ 3) : realM l g i s = ((i : Int), (s : Int)) := by
 unfold realM
 rw [symAt_nat, if_neg h]
theorem plS_two {l : List Ob} {g : Glb} (G : NmG l g) : ∀ n, n ≤ oBs l l.length → plN l g n ≤ 2 * n
 | 0, _ => Int.le_refl _
 | n + 1, h => by
  have ih := plS_two G n (by omega)
  have hc := itF_size l g (show n < oBs l l.length by omega)
  show plS (itF l g) (loF l g) (n + 1) ≤ _
  have ih : plS (itF l g) (loF l g) n ≤ 2 * n := ih
  rw [plS]
  split
  ·rename_i hlo
   obtain ⟨o, w, I⟩ := itAt (l := l) (show n < oBs l l.length by omega)
   have := I.one G (lo_br hlo)
   omega
  ·omega
theorem sumS_two (l : List Ob) (g : Glb) : sumS (itF l g) (itF l g).length ≤ 2 * (oBs l l.length : Nat) := by
 have h := sumS_le l g (itF l g).length (by rw [brO_len]; exact Nat.le_refl _)
 have e : (itF l g).length = oBs l l.length := brO_len l g _
 rw [e] at h ⊢; exact h.2
structure Lks (l : List Ob) : Prop where
 few : l.length ≤ 16
 val : ∀ i, i < l.length → vBE (obN l i) = .fine
 uniq : Uniq l
 abs : ∀ i s, i < l.length → s < (obN l i).syms.length → (syO l i s).in_ = 3 → ∃ o t, o < l.length ∧ t < (obN l o).syms.length ∧ expS (syO l o t) ∧ (syO l o t).name = (syO l i s).name
 jump : ∀ i j, i < l.length → j < (obN l i).crels.length → jumpsB (obN l i).code (obN l i).map (relN l i j).at_ (relN l i j).kind = true →
  ∃ o t, o < l.length ∧ t < (obN l o).syms.length ∧ (syO l o t).in_ ≠ 1 ∧ realM l (nmG l) i (relN l i j).sym = (((o : Nat) : Int), ((t : Nat) : Int))
 main : ∃ o t, o < l.length ∧ t < (obN l o).syms.length ∧ expS (syO l o t) ∧ (syO l o t).name = mainT ∧ (syO l o t).in_ = 2
theorem Lks.names {l : List Ob} (L : Lks l) : namesE l = .fine ∧ (nmO l l.length).1 = .fine ∧ NmG l (nmG l) := by
 have hf := nmO_ok L.uniq L.val l.length (Nat.le_refl _)
 have h2 : idxM (noneO l (nmG l)) l.length = l.length := idxM_none fun i hi => by
  unfold noneO
  rw [decide_eq_false_iff_not, Decidable.not_not]
  refine idxM_none fun s hs => ?_
  unfold noneB
  by_cases h3 : (syO l i s).in_ = 3
  ·obtain ⟨o, t, h4, h5, h6, h7⟩ := L.abs i s hi hs h3
   have := (glG_at hf h4 h5 h6).1
   rw [h7] at this
   rw [this]; simp
  ·rw [decide_eq_false h3]; rfl
 have h3 : idxM (toO l (nmG l)) l.length = l.length := idxM_none fun i hi => by
  unfold toO
  rw [decide_eq_false_iff_not, Decidable.not_not]
  refine idxM_none fun j hj => ?_
  unfold toB
  by_cases hJ : jumpsB (obN l i).code (obN l i).map (relN l i j).at_ (relN l i j).kind = true
  ·obtain ⟨o, t, _, _, h5, h6⟩ := L.jump i j hi hj hJ
   rw [hJ, h6]
   simp only [symAt_nat]
   rw [decide_eq_false h5]; rfl
  ·rw [show jumpsB (obN l i).code (obN l i).map (relN l i j).at_ (relN l i j).kind = false by simpa using hJ]; rfl
 have h4 : noMain l (nmG l) = false := by
  obtain ⟨o, t, m1, m2, m3, m4, m5⟩ := L.main
  obtain ⟨g1, g2⟩ := glG_at hf m1 m2 m3
  rw [m4] at g1 g2
  unfold noMain
  rw [g1, g2]
  simp only [symAt_nat, m5]; rfl
 refine ⟨?_, hf, nmG_ok L.few hf h2⟩
 unfold namesE
 rw [if_neg (by rw [hf]; simp [FErr.isErr]), if_neg (by rw [h2]; simp), if_neg (by rw [h3]; simp), if_neg (by rw [h4]; simp)]
theorem Lks.ok {l : List Ob} (L : Lks l) (hd : oDn l l.length ≤ 2048) (hw : oBs l l.length ≤ 1024) : laidE l = .fine := by
 obtain ⟨h1, _, G⟩ := L.names
 have hs := sumS_two l (nmG l)
 have e : (itF l (nmG l)).length = oBs l l.length := brO_len l (nmG l) _
 have hp := plS_two G (oBs l l.length) (Nat.le_refl _)
 have hm : manyL l (nmG l) = false := by
  unfold manyL
  rw [Bool.or_eq_false_iff, decide_eq_false_iff_not, decide_eq_false_iff_not]; omega
 have hp' : plS (itF l (nmG l)) (rlx (itF l (nmG l))) (itF l (nmG l)).length ≤ 2048 := by
  rw [e]; exact Int.le_trans hp (by omega)
 unfold laidE layE
 rw [if_neg (by have := L.few; omega), h1, if_neg (by simp [FErr.isErr]), if_neg (by rw [hm]; simp), if_neg (by omega)]
theorem linkI_ok {l : List Ob} (h : laidE l = .fine) : linkI l = imgM l (nmG l) := by
 unfold linkI; rw [h]; rfl
theorem oSt_fold (ls : List Ln) : ∀ i, i ≤ ls.length → oSt ls i = (ls.take i).foldl (fun s x => oStep x s) ⟨[], [], [], []⟩
 | 0, _ => rfl
 | i + 1, h => by
  rw [oSt, oSt_fold ls i (by omega), take_get1 ls RT.line.dflt (show i < ls.length by omega), List.foldl_append]; rfl
theorem oAll_fold (ls : List Ln) : oAll ls = ls.foldl (fun s x => oStep x s) ⟨[], [], [], []⟩ := by
 rw [oAll, oSt_fold ls _ (Nat.le_refl _), List.take_length]
theorem fold_nop (n : Nat) (s : OS) : (List.replicate n (opL 1 [])).foldl (fun s x => oStep x s) s = { s with code := s.code ++ List.replicate n 16777216, map := s.map ++ List.replicate n 1 } := by
 induction n generalizing s with
 | zero => simp
 | succ n ih =>
  rw [List.replicate_succ, List.foldl_cons, ih]
  have e : oStep (opL 1 []) s = { s with code := s.code ++ [16777216], map := s.map ++ [1] } := rfl
  rw [e]
  simp only [OS.mk.injEq, true_and, and_true]
  refine ⟨?_, ?_⟩ <;> (rw [List.append_assoc, List.replicate_succ]; rfl)
theorem getD_rep {α : Type} (n : Nat) (x d : α) {i : Nat} (h : i < n) : (List.replicate n x).getD i d = x := by
 rw [List.getD_eq_getElem?_getD, List.getElem?_replicate, if_pos h]; rfl
end Go.Proofs.YtacmmedhjebfjaaDoor
set_option linter.unusedVariables false
set_option linter.unusedSimpArgs false
namespace Go.Proofs.YtacmmedhjebfjaaDoor
open Go.RowKit Go.Sy Go.Fac
def mkO (d : List Int) (ls : List Ln) : Ob := ⟨d, (oAll ls).code, (oAll ls).map, [], (oAll ls).cr, (oAll ls).sy⟩
theorem beg_of {c m : List Int} {i : Nat} (hi : i < c.length) (hm : m.length = c.length) (h1 : m.getD i 0 = 1) : begM c m i = true := by
 unfold begM
 rw [Int.toNat_natCast, h1, decide_eq_false (by omega), decide_eq_false (by omega), decide_eq_false (by omega)]; rfl
theorem ins_of {c m : List Int} {i : Nat} (hi : i < c.length) (hm : m.length = c.length) (h1 : m.getD i 0 = 1) (hok : ofOk (c.getD i 0) = true) : insB c m i = true ∧ insI c m i = ofF (c.getD i 0) (nextW c i) ∧ (insI c m i).op = c.getD i 0 / 16777216 := by
 have hb := beg_of hi hm h1
 have e : insI c m i = ofF (c.getD i 0) (nextW c i) := by unfold insI; rw [if_pos hb, Int.toNat_natCast]
 refine ⟨by unfold insB; rw [hb, Int.toNat_natCast, hok]; rfl, e, by rw [e]; unfold ofF; rw [if_pos hok]⟩
theorem word_ok {c m : List Int} {i : Nat} (hi : i < c.length) (hm : m.length = c.length) (h1 : m.getD i 0 = 1) (hok : ofOk (c.getD i 0) = true) (hc : isaClass (c.getD i 0 / 16777216) ≠ 4) (ht : isaTwo (c.getD i 0 / 16777216) = false ∨ (i + 1 < c.length ∧ m.getD (i + 1) 0 = 0)) : (wordBE c m i).isErr = false := by
 obtain ⟨i1, _, i3⟩ := ins_of hi hm h1 hok
 have hcall : callB c m i = false := by unfold callB; rw [i3, decide_eq_false hc]; rfl
 unfold wordBE
 rw [Int.toNat_natCast, if_pos h1, i1, hcall, i3]
 rw [if_neg (by decide)]
 rcases ht with ht | ⟨ht, ht2⟩
 ·rw [ht]; rfl
 ·have e3 : ((i : Int) + 1).toNat = i + 1 := by omega
  rw [e3, ht2, decide_eq_false (by omega)]; simp [FErr.isErr]
theorem need_no {c m : List Int} {cr : List Rel} {i : Nat} (h : insB c m i = false ∨ (shortM (insI c m i).op = false ∧ farM (insI c m i).op = false ∧ (insI c m i).op ≠ 15)) : (needE c m cr i).isErr = false := by
 unfold needE
 rcases h with h | ⟨h1, h2, h3⟩
 ·rw [h]; simp [FErr.isErr]
 ·rw [h1, h2, decide_eq_false h3]; simp [FErr.isErr]
theorem need_short {c m : List Int} {cr : List Rel} {i : Nat} (h1 : farM (insI c m i).op = false) (h3 : (insI c m i).op ≠ 15) (h : mapGet (atM cr cr.length) (i : Int) = 2) : (needE c m cr i).isErr = false := by
 unfold needE
 rw [h1, decide_eq_false h3, h]; simp [FErr.isErr]
theorem syE_code {d c m : List Int} {sy : List Sm} {i : Nat} {x : Sm} (hx : sy.getD i RT.sym.dflt = x) (hn : symOk x.name = true) (hm : mapGet (mpS sy i) x.name = 0) (h2 : x.in_ = 2) (hv : 0 ≤ x.value) (hv2 : x.value < c.length) (hv3 : m.getD x.value.toNat 0 = 1) : (syE d c m sy i).isErr = false := by
 unfold syE symE
 rw [hx, hm, hn, if_neg (by decide), if_neg (by decide)]
 have : symFine d c m x.in_ x.value x.global = true := by
  unfold symFine
  rw [if_neg (by omega), if_pos h2, hv3, decide_eq_true hv, decide_eq_true hv2]; rfl
 rw [if_pos this]; rfl
theorem crE_branch {c m : List Int} {cr : List Rel} {sy : List Sm} {i : Nat} {r : Rel} (hr : cr.getD i RT.rel.dflt = r) (h1 : 0 ≤ r.at_) (h2 : r.at_ < c.length) (h3 : lastR cr i < r.at_) (h4 : r.kind = 2) (h5 : 0 ≤ r.sym) (h6 : r.sym < sy.length) (h7 : r.add = 0) (h8 : insB c m r.at_ = true) (h9 : shortM (insI c m r.at_).op = true) (h10 : (sy.getD r.sym.toNat RT.sym.dflt).in_ ≠ 1) : (crE c m cr sy i).isErr = false := by
 have e : relocE sy.length r.at_ r.kind r.sym r.add (lastR cr i) c.length 2 = .fine := by
  unfold relocE relocB
  rw [decide_eq_false (by omega : ¬ r.at_ < 0), decide_eq_false (by omega : ¬ (c.length : Int) ≤ r.at_), decide_eq_false (by omega : ¬ r.at_ ≤ lastR cr i), decide_eq_false (by omega : ¬ r.kind < 1), decide_eq_false (by omega : ¬ 2 < r.kind), decide_eq_false (by omega : ¬ r.sym < 0), decide_eq_false (by omega : ¬ (sy.length : Int) ≤ r.sym), decide_eq_false (by omega : ¬ r.add < -65536), decide_eq_false (by omega : ¬ 65536 < r.add)]; rfl
 have s : shapeB c m sy r.at_ r.kind r.sym r.add = true := by
  unfold shapeB
  simp only
  rw [if_pos h4, h8, h9, decide_eq_false h10, h7]; rfl
 unfold crE
 simp only
 rw [hr, e, s]; rfl
theorem rk_all {m : List Int} : ∀ {n : Nat}, (∀ i, i < n → m.getD i 0 ≠ 0) → rk m n = n
 | 0, _ => rfl
 | n + 1, h => by rw [rk, rk_all fun i hi => h i (by omega), if_neg (h n (by omega))]
end Go.Proofs.YtacmmedhjebfjaaDoor
set_option linter.unusedVariables false
set_option linter.unusedSimpArgs false
namespace Go.Proofs.YtacmmedhjebfjaaDoor
open Go.RowKit Go.Sy Go.Fac
end Go.Proofs.YtacmmedhjebfjaaDoor
set_option linter.unusedVariables false
set_option linter.unusedSimpArgs false
namespace Go.Proofs.YtacmmedhjebfjaaDoor
open Go.RowKit Go.Sy Go.Fac
def endT : ByteArray := ⟨#[101, 110, 100]⟩
def fA (k : Int) : Int := if 0 < k then 4 else 0
def farLn (k : Int) (n : Nat) : List Ln := [⟨⟨0, 0, 0, 0, 0⟩, mainT, ByteArray.empty, false⟩, ⟨⟨16 + k, fA k, 0, 0, 0⟩, ByteArray.empty, endT, false⟩] ++ List.replicate n (opL 1 []) ++ [⟨⟨0, 0, 0, 0, 0⟩, endT, ByteArray.empty, false⟩, opL 32 [1]]
def fW (k : Int) : Int := (16 + k) * 16777216 + fA k * 65536
def farC (k : Int) (n : Nat) : List Int := fW k :: (List.replicate n 16777216 ++ [536936448])
def farM' (n : Nat) : List Int := 1 :: (List.replicate n 1 ++ [1])
def farO (k : Int) (n : Nat) : Ob := ⟨[], farC k n, farM' n, [], [⟨0, 2, 1, 0⟩], [⟨mainT, 2, 0, true⟩, ⟨endT, 2, ((n + 1 : Nat) : Int), true⟩]⟩
theorem k3 {k : Int} (h : 0 ≤ k ∧ k < 3) : k = 0 ∨ k = 1 ∨ k = 2 := by omega
theorem far_mk {k : Int} (hk : 0 ≤ k ∧ k < 3) (n : Nat) : mkO [] (farLn k n) = farO k n := by
 have e : oAll (farLn k n) = ⟨farC k n, farM' n, [⟨0, 2, 1, 0⟩], [⟨mainT, 2, 0, true⟩, ⟨endT, 2, ((n + 1 : Nat) : Int), true⟩]⟩ := by
  rw [oAll_fold, farLn, List.foldl_append, List.foldl_append]
  have e1 : ([⟨⟨0, 0, 0, 0, 0⟩, mainT, ByteArray.empty, false⟩, ⟨⟨16 + k, fA k, 0, 0, 0⟩, ByteArray.empty, endT, false⟩] : List Ln).foldl (fun s x => oStep x s) (⟨[], [], [], []⟩ : OS) = ⟨[fW k], [1], [⟨0, 2, 1, 0⟩], [⟨mainT, 2, 0, true⟩, ⟨endT, 3, 0, true⟩]⟩ := by
   rcases k3 hk with rfl | rfl | rfl <;> rfl
  rw [e1, fold_nop]
  have e2 : ∀ (C M : List Int), ([⟨⟨0, 0, 0, 0, 0⟩, endT, ByteArray.empty, false⟩, opL 32 [1]] : List Ln).foldl (fun s x => oStep x s) (⟨C, M, [⟨0, 2, 1, 0⟩], [⟨mainT, 2, 0, true⟩, ⟨endT, 3, 0, true⟩]⟩ : OS) = ⟨C ++ [536936448], M ++ [1], [⟨0, 2, 1, 0⟩], [⟨mainT, 2, 0, true⟩, ⟨endT, 2, (C.length : Int), true⟩]⟩ := fun C M => rfl
  show List.foldl (fun s x => oStep x s) (⟨[fW k] ++ List.replicate n 16777216, [1] ++ List.replicate n 1, [⟨0, 2, 1, 0⟩], [⟨mainT, 2, 0, true⟩, ⟨endT, 3, 0, true⟩]⟩ : OS) _ = _
  rw [e2]
  have hl : ([fW k] ++ List.replicate n 16777216).length = n + 1 := by simp
  rw [hl]; rfl
 unfold mkO farO
 rw [e]
theorem farC_len (k : Int) (n : Nat) : (farC k n).length = n + 2 := by simp [farC]
theorem farM_len (n : Nat) : (farM' n).length = n + 2 := by simp [farM']
theorem farM_get {n i : Nat} (h : i < n + 2) : (farM' n).getD i 0 = 1 := by
 have e : farM' n = List.replicate (n + 2) 1 := by
  unfold farM'
  rw [List.replicate_succ, ← List.replicate_succ', List.replicate_succ]
 rw [e]; exact getD_rep _ _ _ h
theorem farC_get (k : Int) {n i : Nat} (h : i < n + 2) : (farC k n).getD i 0 = if i = 0 then fW k else if i = n + 1 then 536936448 else 16777216 := by
 unfold farC
 cases i with
 | zero => rfl
 | succ i =>
  rw [if_neg (by omega)]
  have e0 : (fW k :: (List.replicate n 16777216 ++ [536936448])).getD (i + 1) 0 = (List.replicate n (16777216 : Int) ++ [536936448]).getD i 0 := by simp [List.getD_eq_getElem?_getD]
  rw [e0]
  by_cases e : i = n
  ·subst e
   rw [if_pos (by omega)]
   have := getD_one (List.replicate i (16777216 : Int)) 536936448 0
   rw [List.length_replicate] at this; exact this
  ·rw [if_neg (by omega), getD_app_l _ _ _ (by rw [List.length_replicate]; omega)]
   exact getD_rep _ _ _ (by omega)
theorem far_word {k : Int} (hk : 0 ≤ k ∧ k < 3) {n i : Nat} (h : i < n + 2) : ofOk ((farC k n).getD i 0) = true ∧ isaClass ((farC k n).getD i 0 / 16777216) ≠ 4 ∧ isaTwo ((farC k n).getD i 0 / 16777216) = false ∧ farM ((farC k n).getD i 0 / 16777216) = false ∧ (farC k n).getD i 0 / 16777216 ≠ 15 ∧ (shortM ((farC k n).getD i 0 / 16777216) = decide (i = 0)) := by
 rw [farC_get k h]
 by_cases h0 : i = 0
 ·rw [if_pos h0, decide_eq_true h0]
  rcases k3 hk with rfl | rfl | rfl <;> exact ⟨by decide, by decide, by decide, by decide, by decide, by decide⟩
 ·rw [if_neg h0, decide_eq_false h0]
  split <;> exact ⟨by decide, by decide, by decide, by decide, by decide, by decide⟩
theorem far_v {k : Int} (hk : 0 ≤ k ∧ k < 3) {n : Nat} (hn : n ≤ 1000) : vBE (farO k n) = .fine := by
 have hc := farC_len k n
 have hm := farM_len n
 have hins : ∀ i, i < n + 2 → insB (farC k n) (farM' n) i = true ∧ (insI (farC k n) (farM' n) i).op = (farC k n).getD i 0 / 16777216 := fun i hi => by
  obtain ⟨w1, _⟩ := far_word hk hi
  obtain ⟨i1, _, i3⟩ := ins_of (c := farC k n) (m := farM' n) (by omega) (by omega) (farM_get hi) w1
  exact ⟨i1, i3⟩
 refine vBE_ok (o := farO k n) ?_ ?_ ?_ ?_ ?_ ?_ (fun i hi => ?_) (fun i hi => ?_) (fun i hi => ?_) (fun i hi => ?_) (fun i hi => ?_)
 ·show (farC k n).length ≤ _; omega
 ·show (farM' n).length = (farC k n).length; omega
 ·exact Nat.zero_le _
 ·exact Nat.zero_le _
 ·show 1 ≤ 1024; omega
 ·show 2 ≤ 256; omega
 ·have hi : i < n + 2 := by rw [← hc]; exact hi
  obtain ⟨w1, w2, w3, _⟩ := far_word hk hi
  exact word_ok (c := farC k n) (m := farM' n) (by omega) (by omega) (farM_get hi) w1 w2 (.inl w3)
 ·have hi : i < 2 := hi
  rcases (by omega : i = 0 ∨ i = 1) with rfl | rfl
  ·refine syE_code (x := ⟨mainT, 2, 0, true⟩) rfl rfl rfl rfl (Int.le_refl _) ?_ ?_
   ·show (0 : Int) < ((farC k n).length : Int); omega
   ·exact farM_get (n := n) (i := 0) (by omega)
  ·refine syE_code (x := ⟨endT, 2, ((n + 1 : Nat) : Int), true⟩) rfl rfl rfl rfl (by show (0 : Int) ≤ ((n + 1 : Nat) : Int); omega) ?_ ?_
   ·show ((n + 1 : Nat) : Int) < ((farC k n).length : Int); omega
   ·show (farM' n).getD (((n + 1 : Nat) : Int)).toNat 0 = 1
    rw [Int.toNat_natCast]; exact farM_get (by omega)
 ·exact absurd hi (Nat.not_lt_zero _)
 ·have hi : i < 1 := hi
  have : i = 0 := by omega
  subst this
  obtain ⟨i1, i2⟩ := hins 0 (by omega)
  have hs := (far_word hk (n := n) (i := 0) (by omega)).2.2.2.2.2
  refine crE_branch (r := ⟨0, 2, 1, 0⟩) rfl (Int.le_refl _) ?_ (show (-1 : Int) < 0 by decide) rfl (by decide) (show (1 : Int) < 2 by decide) rfl i1 ?_ (show (2 : Int) ≠ 1 by decide)
  ·show (0 : Int) < ((farC k n).length : Int); omega
  ·show shortM (insI (farC k n) (farM' n) ((0 : Nat) : Int)).op = true
   rw [i2, hs]; rfl
 ·have hi : i < n + 2 := by rw [← hc]; exact hi
  obtain ⟨_, _, _, w4, w5, w6⟩ := far_word hk hi
  obtain ⟨i1, i2⟩ := hins i hi
  by_cases h0 : i = 0
  ·subst h0
   refine need_short ?_ ?_ rfl
   ·show farM (insI (farC k n) (farM' n) ((0 : Nat) : Int)).op = false
    rw [i2]; exact w4
   ·show (insI (farC k n) (farM' n) ((0 : Nat) : Int)).op ≠ 15
    rw [i2]; exact w5
  ·refine need_no (.inr ?_)
   show shortM (insI (farC k n) (farM' n) (i : Int)).op = false ∧ farM (insI (farC k n) (farM' n) (i : Int)).op = false ∧ (insI (farC k n) (farM' n) (i : Int)).op ≠ 15
   rw [i2, w6, decide_eq_false h0]
   exact ⟨rfl, w4, w5⟩
theorem one_lt {α : Type} {x : α} {o : Nat} (h : o < [x].length) : o = 0 := by simp at h; exact h
theorem far_lks {k : Int} (hk : 0 ≤ k ∧ k < 3) {n : Nat} (hn : n ≤ 1000) : Lks [farO k n] := by
 refine ⟨by simp, fun i hi => ?_, fun o s o' s' ho ho' hs hs' _ _ he => ?_, fun i s hi hs h3 => ?_, fun i j hi hj _ => ?_, ⟨0, 0, by simp, by show 0 < 2; omega, ⟨rfl, show (2 : Int) ≠ 3 by decide⟩, rfl, rfl⟩⟩
 ·rw [one_lt hi]; exact far_v hk hn
 ·obtain rfl := one_lt ho
  obtain rfl := one_lt ho'
  have hs : s < 2 := hs
  have hs' : s' < 2 := hs'
  refine ⟨rfl, ?_⟩
  rcases (by omega : s = 0 ∨ s = 1) with rfl | rfl <;> rcases (by omega : s' = 0 ∨ s' = 1) with rfl | rfl
  ·rfl
  ·exact absurd he (show mainT ≠ endT by decide)
  ·exact absurd he (show endT ≠ mainT by decide)
  ·rfl
 ·obtain rfl := one_lt hi
  have hs : s < 2 := hs
  rcases (by omega : s = 0 ∨ s = 1) with rfl | rfl
  ·exact absurd h3 (show (2 : Int) ≠ 3 by decide)
  ·exact absurd h3 (show (2 : Int) ≠ 3 by decide)
 ·obtain rfl := one_lt hi
  have hj : j < 1 := hj
  have : j = 0 := by omega
  subst this
  refine ⟨0, 1, by simp, by show 1 < 2; omega, by show (2 : Int) ≠ 1; decide, ?_⟩
  exact real_self (l := [farO k n]) (i := 0) (s := 1) (by show (2 : Int) ≠ 3; decide)
theorem far_pix {k : Int} {n w : Nat} (hw : w ≤ n + 2) : pix [farO k n] 0 w = w := by
 unfold pix
 show 0 + rk (farM' n) w = w
 rw [rk_all fun i hi => by rw [farM_get (by omega)]; decide]; omega
theorem far_bs {k : Int} {n : Nat} : oBs [farO k n] 1 = n + 2 := by
 show 0 + rk (farM' n) (farM' n).length = n + 2
 rw [farM_len, rk_all fun i hi => by rw [farM_get hi]; decide]; omega
theorem far_laid {k : Int} (hk : 0 ≤ k ∧ k < 3) {n : Nat} (hn : n ≤ 1000) : laidE [farO k n] = .fine := by
 refine (far_lks hk hn).ok ?_ ?_
 ·show (0 : Int) + ((0 : Nat) : Int) ≤ 2048; omega
 ·show oBs [farO k n] 1 ≤ 1024
  rw [far_bs]; omega
abbrev farG (k : Int) (n : Nat) : Glb := nmG [farO k n]
theorem far_ok {k : Int} (hk : 0 ≤ k ∧ k < 3) {n : Nat} (hn : n ≤ 1000) : LkOk [farO k n] (farG k n) ∧ NoData [farO k n] (farG k n) := by
 have h : (laidE [farO k n]).isErr = false := by rw [far_laid hk hn]; rfl
 obtain ⟨K, T, _⟩ := laid_ok h
 exact ⟨K, T⟩
theorem far_br {k : Int} (hk : 0 ≤ k ∧ k < 3) {n : Nat} (hn : n ≤ 1000) {i : Nat} (hi : i < n + 2) : itB (itF [farO k n] (farG k n)) i = decide (i = 0) := by
 obtain ⟨K, T⟩ := far_ok hk hn
 by_cases h0 : i = 0
 ·subst h0
  rw [decide_eq_true rfl]
  have h := (brO_inv K.nm [farO k n].length (Nat.le_refl _)).all 0 0 (by simp) (by show 0 < 1; omega) (.inl (by simp)) rfl
  obtain ⟨w, e1, _, _, e4, _⟩ := br_at K.nm (i := 0) (j := 0) (by simp) (by show 0 < 1; omega) rfl
  have e1 : (0 : Int) = (w : Int) := e1
  have : w = 0 := by omega
  subst this
  rw [e4, far_pix (by omega)] at h; exact h
 ·rw [decide_eq_false h0]
  cases hb : itB (itF [farO k n] (farG k n)) i with
  | false => rfl
  | true =>
   have I := itAt_of (l := [farO k n]) (o := 0) (w := i) (by simp) (by show i < (farM' n).length; rw [farM_len]; exact hi) (by show (farM' n).getD i 0 ≠ 0; rw [farM_get hi]; decide)
   rw [far_pix (by omega)] at I
   obtain ⟨j, j1, j2, j3, _⟩ := I.br K.nm hb
   have j1 : j < 1 := j1
   have : j = 0 := by omega
   subst this
   have j3 : (0 : Int) = (i : Int) := j3
   omega
theorem far_it0 {k : Int} (hk : 0 ≤ k ∧ k < 3) {n : Nat} (hn : n ≤ 1000) : itTo [farO k n] (farG k n) 0 = (0, 1) ∧ itG (itF [farO k n] (farG k n)) 0 = ((n + 1 : Nat) : Int) ∧ adrL [farO k n] (farG k n) (0, 1) = 2048 + plN [farO k n] (farG k n) (n + 1) := by
 obtain ⟨K, T⟩ := far_ok hk hn
 have I := itAt_of (l := [farO k n]) (o := 0) (w := 0) (by simp) (by show 0 < (farM' n).length; rw [farM_len]; omega) (by show (farM' n).getD 0 0 ≠ 0; rw [farM_get (by omega)]; decide)
 rw [far_pix (by omega)] at I
 have hb := far_br hk hn (i := 0) (by omega)
 obtain ⟨j, j1, j2, j3, j4, j5, _⟩ := I.br K.nm hb
 have j1 : j < 1 := j1
 have : j = 0 := by omega
 subst this
 have e1 : itTo [farO k n] (farG k n) 0 = (0, 1) := by
  unfold itTo
  rw [I.own]
  simp only
  rw [j5]
  exact real_self (l := [farO k n]) (i := 0) (s := 1) (by show (2 : Int) ≠ 3; decide)
 have h1 : (0 : Nat) < [farO k n].length := by simp
 have c := K.code (o := 0) (s := 1) h1 (by show 1 < 2; omega) rfl
 have e5 : pix [farO k n] 0 (syO [farO k n] 0 1).value.toNat = n + 1 := by
  show pix [farO k n] 0 (((n + 1 : Nat) : Int)).toNat = n + 1
  rw [Int.toNat_natCast, far_pix (by omega)]
 refine ⟨e1, ?_, ?_⟩
 ·obtain ⟨_, _, t3⟩ := br_to K.nm T I hb
  rw [t3, e1]
  have := c.2.2.2.1
  rw [e5] at this
  exact this
 ·unfold adrL
  rw [if_neg (show ¬ ((symAt [farO k n] 0 1).in_ = 1) by show ¬ ((2 : Int) = 1); decide)]
  show 2048 + plN [farO k n] (farG k n) (pix [farO k n] 0 (syO [farO k n] 0 1).value.toNat) = _
  rw [e5]
theorem far_lo {k : Int} (hk : 0 ≤ k ∧ k < 3) {n : Nat} (hn : n ≤ 1000) : (loF [farO k n] (farG k n)).getD 0 false = decide (127 < n + 1) := by
 obtain ⟨K, T⟩ := far_ok hk hn
 have hL : (itF [farO k n] (farG k n)).length = n + 2 := by rw [K.bs.2.1]; exact far_bs
 have hb := far_br hk hn (i := 0) (by omega)
 obtain ⟨_, hgi, _⟩ := far_it0 hk hn
 have hsz : ∀ i, i < n + 2 → itS (itF [farO k n] (farG k n)) i = 1 := fun i hi => by
  have I := itAt_of (l := [farO k n]) (o := 0) (w := i) (by simp) (by show i < (farM' n).length; rw [farM_len]; exact hi) (by show (farM' n).getD i 0 ≠ 0; rw [farM_get hi]; decide)
  rw [far_pix (by omega)] at I
  rw [(I.words K.nm).1]
  obtain ⟨w1, _, w3, _⟩ := far_word hk hi
  obtain ⟨i1, _, i3⟩ := ins_of (c := farC k n) (m := farM' n) (i := i) (by rw [farC_len]; exact hi) (by rw [farC_len, farM_len]) (farM_get hi) w1
  show szW (farC k n) (farM' n) i = 1
  unfold szW twoB
  rw [i1, i3, w3]; rfl
 have hpl : ∀ g : List Bool, g.length = n + 2 → (∀ j, j < n + 2 → g.getD j false = true → j = 0) → ∀ i, i ≤ n + 2 → plS (itF [farO k n] (farG k n)) g i = i + if 0 < i ∧ g.getD 0 false = true then 1 else 0 := fun g hg hj i => by
  induction i with
  | zero => intro _; rfl
  | succ i ih =>
   intro hi
   rw [plS, ih (by omega), hsz i (by omega)]
   by_cases h0 : i = 0
   ·subst h0
    cases g.getD 0 false <;> simp
   ·have : g.getD i false = false := by
     cases h : g.getD i false with
     | false => rfl
     | true => exact absurd (hj i (by omega) h) h0
    rw [this]
    cases g.getD 0 false <;> simp <;> omega
 have hfit : ∀ g : List Bool, g.length = n + 2 → (∀ j, j < n + 2 → g.getD j false = true → j = 0) → fitsB (itF [farO k n] (farG k n)) (plA (itF [farO k n] (farG k n)) g) 0 = decide ((n : Int) + 1 + (if g.getD 0 false = true then 1 else 0) ≤ 127) := fun g hg hj => by
  have e1 : (plA (itF [farO k n] (farG k n)) g).getD (n + 1) 0 = plS (itF [farO k n] (farG k n)) g (n + 1) := plL_get _ _ _ _ (by omega)
  have e2 : (plA (itF [farO k n] (farG k n)) g).getD 0 0 = plS (itF [farO k n] (farG k n)) g 0 := plL_get _ _ _ _ (by omega)
  have e0 : plS (itF [farO k n] (farG k n)) g 0 = 0 := rfl
  unfold fitsB
  have hz : ((0 : Int)).toNat = 0 := rfl
  rw [hz, hgi, Int.toNat_natCast, e1, e2, hpl g hg hj (n + 1) (by omega), e0]
  cases g.getD 0 false
  ·have : (((n + 1 : Nat) : Int) + if 0 < n + 1 ∧ false = true then 1 else 0) - 0 = (n : Int) + 1 := by simp
   rw [this, decide_eq_true (by omega), Bool.true_and]; simp
  ·have : (((n + 1 : Nat) : Int) + if 0 < n + 1 ∧ true = true then 1 else 0) - 0 = (n : Int) + 1 + 1 := by simp
   rw [this, decide_eq_true (by omega), Bool.true_and]; simp
 have hz0 : ∀ m j, j < n + 2 → (rlxN (itF [farO k n] (farG k n)) m).getD j false = true → j = 0 := fun m j hj h => by
  have := rlxN_br _ _ _ h
  rw [far_br hk hn hj, decide_eq_true_eq] at this; exact this
 have hlen : ∀ m, (rlxN (itF [farO k n] (farG k n)) m).length = n + 2 := fun m => by rw [rlxN_len, hL]
 by_cases hf : 127 < n + 1
 ·rw [decide_eq_true hf]
  cases h : (loF [farO k n] (farG k n)).getD 0 false with
  | true => rfl
  | false =>
   have h1 := rlx_fits (itF [farO k n] (farG k n)) (i := 0) (by omega) hb h
   have h2 := hfit (rlx (itF [farO k n] (farG k n))) (hlen _) (hz0 _)
   have h' : (rlx (itF [farO k n] (farG k n))).getD 0 false = false := h
   rw [h'] at h2
   have h1' : fitsB (itF [farO k n] (farG k n)) (plA (itF [farO k n] (farG k n)) (rlx (itF [farO k n] (farG k n)))) 0 = true := h1
   rw [h1'] at h2
   have := of_decide_eq_true h2.symm
   simp at this; omega
 ·rw [decide_eq_false hf]
  have : ∀ m, (rlxN (itF [farO k n] (farG k n)) m).getD 0 false = false := fun m => by
   induction m with
   | zero => rw [rlxN, hL]; exact getD_rep _ _ _ (by omega)
   | succ m ih =>
    have h2 := hfit (rlxN (itF [farO k n] (farG k n)) m) (hlen m) (hz0 m)
    rw [ih] at h2
    have h3 : fitsB (itF [farO k n] (farG k n)) (plA (itF [farO k n] (farG k n)) (rlxN (itF [farO k n] (farG k n)) m)) ((0 : Nat) : Int) = true := by
     have : ((0 : Nat) : Int) = 0 := rfl
     rw [this, h2]; simp; omega
    rw [rlxN, rndU_at _ _ (rlxN_len _ m) 0 (by omega) _ (by omega), ih]
    unfold goesL
    rw [h3]; simp
  exact this _
theorem far_sz {k : Int} (hk : 0 ≤ k ∧ k < 3) {n : Nat} (hn : n ≤ 1000) {i : Nat} (hi : i < n + 2) : ItAt [farO k n] i 0 i ∧ itS (itF [farO k n] (farG k n)) i = 1 ∧ (obN [farO k n] 0).map.getD i 0 = 1 ∧ insB (farC k n) (farM' n) i = true ∧ (insI (farC k n) (farM' n) i) = ofF ((farC k n).getD i 0) (nextW (farC k n) i) := by
 obtain ⟨K, T⟩ := far_ok hk hn
 have I := itAt_of (l := [farO k n]) (o := 0) (w := i) (by simp) (by show i < (farM' n).length; rw [farM_len]; exact hi) (by show (farM' n).getD i 0 ≠ 0; rw [farM_get hi]; decide)
 rw [far_pix (by omega)] at I
 obtain ⟨w1, _, w3, _⟩ := far_word hk hi
 obtain ⟨i1, i2, i3⟩ := ins_of (c := farC k n) (m := farM' n) (i := i) (by rw [farC_len]; exact hi) (by rw [farC_len, farM_len]) (farM_get hi) w1
 refine ⟨I, ?_, farM_get hi, i1, i2⟩
 rw [(I.words K.nm).1]
 show szW (farC k n) (farM' n) i = 1
 unfold szW twoB
 rw [i1, i3, w3]; rfl
theorem far_pl {k : Int} (hk : 0 ≤ k ∧ k < 3) {n : Nat} (hn : n ≤ 1000) : ∀ i, i ≤ n + 2 → plN [farO k n] (farG k n) i = i + if 0 < i ∧ 127 < n + 1 then 1 else 0
 | 0, _ => rfl
 | i + 1, hi => by
  have ih := far_pl hk hn i (by omega)
  have hs := (far_sz hk hn (show i < n + 2 by omega)).2.1
  show plS (itF [farO k n] (farG k n)) (loF [farO k n] (farG k n)) (i + 1) = _
  have ih : plS (itF [farO k n] (farG k n)) (loF [farO k n] (farG k n)) i = _ := ih
  rw [plS, ih, hs]
  by_cases h0 : i = 0
  ·subst h0
   rw [far_lo hk hn]
   by_cases h : 127 < n + 1
   ·rw [decide_eq_true h]; simp [h]
   ·rw [decide_eq_false h]; simp [h]
  ·have : (loF [farO k n] (farG k n)).getD i false = false := by
    cases h : (loF [farO k n] (farG k n)).getD i false with
    | false => rfl
    | true =>
     have := lo_br h
     rw [far_br hk hn (show i < n + 2 by omega), decide_eq_true_eq] at this
     exact absurd this h0
   rw [this]
   by_cases h : 127 < n + 1
   ·simp [h, Nat.pos_of_ne_zero h0] <;> omega
   ·simp [h]
theorem far_places {k : Int} (hk : 0 ≤ k ∧ k < 3) {n : Nat} (hn : n ≤ 1000) : ∀ i, i < n + 2 → (ptN [farO k n] (farG k n) (i + 1)).places = if 127 < n + 1 then [1] else []
 | 0, _ => by
  have hb := far_br hk hn (i := 0) (by omega)
  rw [ptN, ptM_eq]
  show [] ++ ckP [farO k n] (farG k n) 0 0 = _
  unfold ckP
  rw [hb, if_neg (by simp), far_lo hk hn]
  by_cases h : 127 < n + 1
  ·rw [decide_eq_true h, if_pos rfl, if_pos h]; rfl
  ·rw [decide_eq_false h, if_neg (by simp), if_neg h]; rfl
 | i + 1, hi => by
  obtain ⟨I, hs, hm, _⟩ := far_sz hk hn hi
  obtain ⟨K, T⟩ := far_ok hk hn
  rw [ptN, ptM_eq]
  show (ptN [farO k n] (farG k n) (i + 1)).places ++ ckP [farO k n] (farG k n) (i + 1) _ = _
  rw [far_places hk hn i (by omega)]
  have hb := far_br hk hn hi
  rw [decide_eq_false (by omega)] at hb
  have : ∀ p, ckP [farO k n] (farG k n) (i + 1) p = [] := fun p => by
   unfold ckP
   rw [if_pos hb, hs, I.own]
   show wdP [farO k n] (farG k n) ((0 : Nat) : Int) ((i + 1 : Nat) : Int) p 1 = []
   have hc : wdC [farO k n] (farG k n) ((0 : Nat) : Int) (((i + 1 : Nat) : Int) + ((0 : Nat) : Int)) = false := by
    cases h : wdC [farO k n] (farG k n) ((0 : Nat) : Int) (((i + 1 : Nat) : Int) + ((0 : Nat) : Int)) with
    | false => rfl
    | true =>
     unfold wdC wdR at h
     rw [Bool.and_eq_true, Bool.and_eq_true] at h
     obtain ⟨j, j1, j2, j3⟩ := rH_is (l := [farO k n]) (o := 0) (by simp) h.1.1
     have j1 : j < 1 := j1
     have : j = 0 := by omega
     subst this
     have j2 : (0 : Int) = ((i + 1 : Nat) : Int) + ((0 : Nat) : Int) := j2
     omega
   rw [wdP, wdP, hc]; rfl
  rw [this, List.append_nil]
theorem far_img {k : Int} (hk : 0 ≤ k ∧ k < 3) {n : Nat} (hn : n ≤ 1000) : linkI [farO k n] = imgM [farO k n] (farG k n) ∧ (imgM [farO k n] (farG k n)).code.length = n + 2 + (if 127 < n + 1 then 1 else 0) ∧ (imgM [farO k n] (farG k n)).places = (if 127 < n + 1 then [1] else []) ∧
  (¬ 127 < n + 1 → (imgM [farO k n] (farG k n)).code.getD 0 0 = (16 + k) * 16777216 + fA k * 65536 + 0 * 256 + ((n + 1 : Nat) : Int)) ∧
  (127 < n + 1 → (imgM [farO k n] (farG k n)).code.getD 0 0 = (19 + k) * 16777216 + fA k * 65536 + 0 * 256 + 0 ∧ (imgM [farO k n] (farG k n)).code.getD 1 0 = 2048 + (n : Int) + 2) := by
 obtain ⟨K, T⟩ := far_ok hk hn
 have hB : oBs [farO k n] [farO k n].length = n + 2 := far_bs
 have hcl := code_len K
 rw [hB, far_pl hk hn (n + 2) (Nat.le_refl _)] at hcl
 have hL : (itF [farO k n] (farG k n)).length = n + 2 := by rw [K.bs.2.1, hB]
 obtain ⟨I, _, hm, i1, i2⟩ := far_sz hk hn (show 0 < n + 2 by omega)
 have eI : itI [farO k n] 0 = insI (farC k n) (farM' n) ((0 : Nat) : Int) := by unfold itI; rw [I.own]; rfl
 have hw := (far_word hk (n := n) (i := 0) (by omega)).1
 have hc0 : (farC k n).getD 0 0 = fW k := rfl
 rw [hc0] at hw i2
 have eI2 : itI [farO k n] 0 = ⟨16 + k, fA k, 0, 0, 0⟩ := by
  rw [eI, i2]
  unfold ofF
  rw [if_pos hw]
  rcases k3 hk with rfl | rfl | rfl <;> rfl
 have hpl0 : plN [farO k n] (farG k n) 0 = 0 := rfl
 obtain ⟨f1, f2, f3⟩ := far_it0 hk hn
 have first : ∀ (C : List Int) j, ckC [farO k n] (farG k n) 0 = C → j < C.length → (imgM [farO k n] (farG k n)).code.getD j 0 = C.getD j 0 := fun C j hC hj => by
  obtain ⟨c1, _⟩ := code_at K (n := 0) (i := j) (by rw [hB]; omega) (by rw [hC]; exact hj)
  rw [hpl0, hC] at c1
  have : (0 : Int).toNat + j = j := by simp
  rw [this] at c1; exact c1
 have hlo := far_lo hk hn
 refine ⟨linkI_ok (far_laid hk hn), ?_, ?_, fun h => ?_, fun h => ?_⟩
 ·by_cases h : 127 < n + 1
  ·rw [if_pos ⟨by omega, h⟩] at hcl; rw [if_pos h]; omega
  ·rw [if_neg (fun g => h g.2)] at hcl; rw [if_neg h]; omega
 ·unfold imgM; rw [hL]; exact far_places hk hn (n + 1) (by omega)
 ·rw [decide_eq_false h] at hlo
  rcases became K I hm with ⟨hb, _, _⟩ | ⟨_, hl, _⟩ | ⟨_, _, _, hok, hC⟩
  ·rw [far_br hk hn (by omega)] at hb; cases hb
  ·rw [hlo] at hl; cases hl
  ·rw [eI2] at hC
   rw [first _ 0 hC (by exact Nat.succ_pos 0)]
   show (16 + k) * 16777216 + fA k * 65536 + 0 * 256 + disp8 (plN [farO k n] (farG k n) (itG (itF [farO k n] (farG k n)) 0).toNat - plN [farO k n] (farG k n) 0) = _
   rw [f2, Int.toNat_natCast, far_pl hk hn (n + 1) (by omega), hpl0, if_neg (fun g => h g.2)]
   have : disp8 (((n + 1 : Nat) : Int) + 0 - 0) = ((n + 1 : Nat) : Int) := by unfold disp8; rw [IntKind.wrap_u8]; omega
   rw [this]
 ·rw [decide_eq_true h] at hlo
  rcases became K I hm with ⟨hb, _, _⟩ | ⟨_, _, _, hok, hC⟩ | ⟨_, hl, _⟩
  ·rw [far_br hk hn (by omega)] at hb; cases hb
  ·rw [eI2, f1, f3] at hC
   rw [first _ 0 hC (by exact Nat.succ_pos 1), first _ 1 hC (by exact Nat.lt_succ_self 1)]
   refine ⟨?_, ?_⟩
   ·show (16 + k - 16 + 19) * 16777216 + fA k * 65536 + 0 * 256 + 0 = _; omega
   ·show 2048 + plN [farO k n] (farG k n) (n + 1) = _
    rw [far_pl hk hn (n + 1) (by omega), if_pos ⟨by omega, h⟩]; omega
  ·rw [hlo] at hl; cases hl
theorem far_near {k : Int} (hk : 0 ≤ k ∧ k < 3) {c : Nat} (hc : c < 128) (x : Int) : ofOk ((16 + k) * 16777216 + fA k * 65536 + 0 * 256 + (c : Int)) = true ∧
  (ofF ((16 + k) * 16777216 + fA k * 65536 + 0 * 256 + (c : Int)) x).a = fA k ∧ (ofF ((16 + k) * 16777216 + fA k * 65536 + 0 * 256 + (c : Int)) x).op = 16 + k ∧ (ofF ((16 + k) * 16777216 + fA k * 65536 + 0 * 256 + (c : Int)) x).c = (c : Int) := by
 have hok : ofOk ((16 + k) * 16777216 + fA k * 65536 + 0 * 256 + (c : Int)) = true := by
  have h : ∀ b : Bool, b = (List.range 128).all (fun c => ofOk ((16 + k) * 16777216 + fA k * 65536 + 0 * 256 + (c : Int))) → b = true → ofOk ((16 + k) * 16777216 + fA k * 65536 + 0 * 256 + (c : Int)) = true := fun b e h => by
   rw [e] at h
   exact List.all_eq_true.1 h c (List.mem_range.2 hc)
  rcases k3 hk with rfl | rfl | rfl <;> exact h true (by decide +kernel) rfl
 have ha : 0 ≤ fA k ∧ fA k ≤ 255 := by unfold fA; split <;> omega
 obtain ⟨d1, d2, _, d4⟩ := word_dec (op := 16 + k) (a := fA k) (b := 0) (c := (c : Int)) ha (by omega) (by omega)
 unfold ofF
 rw [if_pos hok]
 exact ⟨hok, d2, d1, d4⟩
theorem far_far {k : Int} (hk : 0 ≤ k ∧ k < 3) (x : Int) : ofOk ((19 + k) * 16777216 + fA k * 65536 + 0 * 256 + 0) = true ∧
  (ofF ((19 + k) * 16777216 + fA k * 65536 + 0 * 256 + 0) x).a = fA k ∧ (ofF ((19 + k) * 16777216 + fA k * 65536 + 0 * 256 + 0) x).op = 19 + k ∧ (ofF ((19 + k) * 16777216 + fA k * 65536 + 0 * 256 + 0) x).imm = x := by
 rcases k3 hk with rfl | rfl | rfl <;> exact ⟨by decide +kernel, rfl, rfl, rfl⟩
end Go.Proofs.YtacmmedhjebfjaaDoor
set_option linter.unusedVariables false
set_option linter.unusedSimpArgs false
set_option linter.unusedSectionVars false
namespace Go.Proofs.YtacmmedhjebfjaaDoor
open Go.RowKit Go.Sy Go.Fac
section
variable {ea : Ear} {has : Int → Prop} {rest : List (Nat × SVal)} [ht : Nonempty (EType ea)]
def fN (x : Int) : Nat := (x % 60 + 100).toNat
def fK (x : Int) : Int := x % 3
def farH (k : Int) : List Ln := [⟨⟨0, 0, 0, 0, 0⟩, mainT, ByteArray.empty, false⟩, ⟨⟨16 + k, fA k, 0, 0, 0⟩, ByteArray.empty, endT, false⟩]
abbrev farFr (k : Int) (n : Nat) : List (Nat × SVal) := [(0, .int .i64 (.sym (n : Int) 0 1000)), (1, .int .i64 (.sym k 0 3)), (5, .bool (.lit true)), (6, .ro .i64 [16, 17, 18]), (7, .ro .i64 [19, 20, 21]), (8, .int .i64 (.sym (fA k) 0 4))]
abbrev kfIF := bor [.ro .i64, .ro .i64] kfI
theorem cfIF : Con ea has (G7 ++ rest) 19 kfIF := bor_ok cfI _
def HfarL (kk : Int) (n : Nat) (i : Nat) : SState := { fr := farFr kk n ++ [(9, .own 0), (10, .int .i64 (.sym i 0 1000000))], hp := [(0, some (.recs .line (farH kk ++ List.replicate i (opL 1 []))))], next := 1, sz := 149 }
def XfarL (kk : Int) (n : Nat) : SState := { fr := farFr kk n ++ [(9, .own 0)], hp := [(0, some (.recs .line (farH kk ++ List.replicate n (opL 1 []))))], next := 1, sz := 149 }
def LfarL (kk : Int) (n : Nat) : LSum := ⟨HfarL kk n 0, fun k => k (.exit 0) (XfarL kk n), n ≤ 1000⟩
theorem bfarL (rest : List (Nat × SVal)) (kk : Int) (n : Nat) (i : Nat) : (Tr.sat (rnd1 (env (G7 ++ rest) [(8, kfirst13), (14, kNumber), (15, kAt), (16, kTo), (17, kOp), (18, kObjectRF), (10, kLinkF), (12, krOf), (19, kfIF)]) (fun _ => True) (n) (HfarL kk n) 0 (XfarL kk n) i) (run (env (G7 ++ rest) [(8, kfirst13), (14, kNumber), (15, kAt), (16, kTo), (17, kOp), (18, kObjectRF), (10, kLinkF), (12, krOf), (19, kfIF)]) [] (loopN (bodyOf Tryd.f4) 0) (HfarL kk n i) .leaf)) = (
 IT (decide ((↑i : Int) < (↑n : Int))) (RQ (List.length (farH kk ++ List.replicate i (opL (1 : Int) (@List.nil Int))) + List.length [opL (1 : Int) (nilR RT.i64)] ≤ 137438953472) (i < n ∧ True ∧ (↑n : Int) = (↑n : Int) ∧ kk = kk ∧ true = true ∧ [(16 : RT.ty RT.i64), (17 : RT.ty RT.i64), (18 : RT.ty RT.i64)] = [(16 : RT.ty RT.i64), (17 : RT.ty RT.i64), (18 : RT.ty RT.i64)] ∧ [(19 : RT.ty RT.i64), (20 : RT.ty RT.i64), (21 : RT.ty RT.i64)] = [(19 : RT.ty RT.i64), (20 : RT.ty RT.i64), (21 : RT.ty RT.i64)] ∧ fA kk = fA kk ∧ (↑i : Int) + 1 = (↑(i + 1) : Int) ∧ (0 ≤ (↑(i + 1) : Int) ∧ (↑(i + 1) : Int) ≤ 1000000) ∧ farH kk ++ List.replicate i (opL (1 : Int) (@List.nil Int)) ++ [opL (1 : Int) (nilR RT.i64)] = farH kk ++ List.replicate (i + 1) (opL (1 : Int) (@List.nil Int)))) (Nat.beq (0 : Nat) (0 : Nat) = true ∧ (↑n : Int) = (↑n : Int) ∧ kk = kk ∧ true = true ∧ [(16 : RT.ty RT.i64), (17 : RT.ty RT.i64), (18 : RT.ty RT.i64)] = [(16 : RT.ty RT.i64), (17 : RT.ty RT.i64), (18 : RT.ty RT.i64)] ∧ [(19 : RT.ty RT.i64), (20 : RT.ty RT.i64), (21 : RT.ty RT.i64)] = [(19 : RT.ty RT.i64), (20 : RT.ty RT.i64), (21 : RT.ty RT.i64)] ∧ fA kk = fA kk ∧ farH kk ++ List.replicate i (opL (1 : Int) (@List.nil Int)) = farH kk ++ List.replicate n (opL (1 : Int) (@List.nil Int)))) := by kernel_rfl
set_option maxHeartbeats 4000000 in
theorem lfarL (kk : Int) (n : Nat) {W : World} {R own0 : Nat → Prop} {ρ0 : Nat → Option Value} (hown : HownOk (env (G7 ++ rest) [(8, kfirst13), (14, kNumber), (15, kAt), (16, kTo), (17, kOp), (18, kObjectRF), (10, kLinkF), (12, krOf), (19, kfIF)]) own0 ρ0) : LOk Tryd.prog (env (G7 ++ rest) [(8, kfirst13), (14, kNumber), (15, kAt), (16, kTo), (17, kOp), (18, kObjectRF), (10, kLinkF), (12, krOf), (19, kfIF)]) (ctx ea has) (G7 ++ rest) W R own0 ρ0 (loopN (bodyOf Tryd.f4) 0) (LfarL kk n) := by
 refine loop1_ok (J := fun _ => True) (N := n) (H := HfarL kk n) (X := XfarL kk n) (env_ok (con := [(8, kfirst13), (14, kNumber), (15, kAt), (16, kTo), (17, kOp), (18, kObjectRF), (10, kLinkF), (12, krOf), (19, kfIF)]) ⟨cfirst13, cNumber, cAt, cTo, cOp, cObjectRF, cLinkF, crOf, cfIF, trivial⟩) hown (ls := fun i => []) (fun i => noSums (by kernel_rfl)) (fun hm i hi hj => ?_) 0 (fun hm => by first | exact Nat.zero_le _ | omega) (fun hm => trivial)
 rw [bfarL rest kk n i]
 delta RQ IT
 refine ⟨fun h => ?_, fun h => ?_⟩
 ·have h := of_decide_eq_true h
  have hl : (farH kk ++ List.replicate i (opL 1 [])).length + [opL 1 (nilR RT.i64)].length ≤ 137438953472 := by
   rw [List.length_append, List.length_replicate]
   show 2 + i + 1 ≤ _
   omega
  refine ⟨hl, fun _ => ⟨by omega, trivial, rfl, rfl, rfl, rfl, rfl, rfl, by omega, ⟨by omega, by omega⟩, ?_⟩⟩
  rw [List.append_assoc, List.replicate_succ']; rfl
 ·have h := of_decide_eq_false h
  have : i = n := by omega
  subst this
  exact ⟨rfl, rfl, rfl, rfl, rfl, rfl, rfl, rfl⟩
def kLinkFar : List SVal → Nat → Acc ORes := fun a n => match a with | [.int .i64 n', .int .i64 k'] => .ret ({ v := .bool (.lit true) }) | _ => .fail "LinkFar"
theorem argLinkFar (n' k' : SI) : (all (subL tAtN none' [] deep [.int .i64 n', .int .i64 k'] [.int .i64 (.full n'.val), .int .i64 (.full k'.val)])) = (
 SI.val n' = SI.val n' ∧ SI.val k' = SI.val k') := by kernel_rfl
theorem runLinkFar (rest : List (Nat × SVal)) (n' : Int) (k' : Int) : (Tr.sat (plainQ (.bool (.lit true))) (run (env (G7 ++ rest) [(8, kfirst13), (14, kNumber), (15, kAt), (16, kTo), (17, kOp), (18, kObjectRF), (10, kLinkF), (12, krOf), (19, kfIF)]) [(2000011, cutL { fr := farFr (fK k') (fN n'), hp := [], next := 0, sz := 149 }), (13, LfarL (fK k') (fN n')), (1000016, cutL { fr := farFr (fK k') (fN n') ++ [(9, .own 0)], hp := [(0, some (.recs .line (farLn (fK k') (fN n'))))], next := 1, sz := 149 }), (1000017, cutL { fr := farFr (fK k') (fN n') ++ [(11, .ptr 0 0), (12, .err .fine)], hp := [(0, some (.cells (imgV (linkI [farO (fK k') (fN n')]))))], next := 1, sz := 149 })] (bodyOf Tryd.f4) (start [.int .i64 (.full n'), .int .i64 (.full k')] 149) (ends (env (G7 ++ rest) [(8, kfirst13), (14, kNumber), (15, kAt), (16, kTo), (17, kOp), (18, kObjectRF), (10, kLinkF), (12, krOf), (19, kfIF)]) Tryd.f4.results.toList))) = (
 RQ ((0 : Int) < (60 : Int)) (RQ ((0 : Int) < (3 : Int)) ((IT (decide (0 < k' % 3)) (IntKind.wrap IntKind.i64 (n' % 60 + (100 : Int)) = (↑(fN n') : Int) ∧ (0 ≤ (↑(fN n') : Int) ∧ (↑(fN n') : Int) ≤ 1000) ∧ k' % 3 = fK k' ∧ (0 ≤ fK k' ∧ fK k' ≤ 3) ∧ true = true ∧ [(16 : Int), (17 : Int), (18 : Int)] = [(16 : RT.ty RT.i64), (17 : RT.ty RT.i64), (18 : RT.ty RT.i64)] ∧ [(19 : Int), (20 : Int), (21 : Int)] = [(19 : RT.ty RT.i64), (20 : RT.ty RT.i64), (21 : RT.ty RT.i64)] ∧ (4 : Int) = fA (fK k')) (IntKind.wrap IntKind.i64 (n' % 60 + (100 : Int)) = (↑(fN n') : Int) ∧ (0 ≤ (↑(fN n') : Int) ∧ (↑(fN n') : Int) ≤ 1000) ∧ k' % 3 = fK k' ∧ (0 ≤ fK k' ∧ fK k' ≤ 3) ∧ true = true ∧ [(16 : Int), (17 : Int), (18 : Int)] = [(16 : RT.ty RT.i64), (17 : RT.ty RT.i64), (18 : RT.ty RT.i64)] ∧ [(19 : Int), (20 : Int), (21 : Int)] = [(19 : RT.ty RT.i64), (20 : RT.ty RT.i64), (21 : RT.ty RT.i64)] ∧ (0 : Int) = fA (fK k'))) ∧ RQ (0 ≤ fK k' ∧ fK k' < (↑(List.length [(16 : RT.ty RT.i64), (17 : RT.ty RT.i64), (18 : RT.ty RT.i64)]) : Int)) (RQ (fN n' ≤ 1000 ∧ (↑(fN n') : Int) = (↑(fN n') : Int) ∧ fK k' = fK k' ∧ true = true ∧ [(16 : RT.ty RT.i64), (17 : RT.ty RT.i64), (18 : RT.ty RT.i64)] = [(16 : RT.ty RT.i64), (17 : RT.ty RT.i64), (18 : RT.ty RT.i64)] ∧ [(19 : RT.ty RT.i64), (20 : RT.ty RT.i64), (21 : RT.ty RT.i64)] = [(19 : RT.ty RT.i64), (20 : RT.ty RT.i64), (21 : RT.ty RT.i64)] ∧ fA (fK k') = fA (fK k') ∧ (0 : Int) = (↑(0 : Nat) : Int) ∧ [Ln.mk (In5.mk (0 : Int) (0 : Int) (0 : Int) (0 : Int) (0 : Int)) (ByteArray.mk #[(109 : UInt8), (97 : UInt8), (105 : UInt8), (110 : UInt8)]) ByteArray.empty false, Ln.mk (In5.mk (List.getD [(16 : RT.ty RT.i64), (17 : RT.ty RT.i64), (18 : RT.ty RT.i64)] (Int.toNat (fK k')) (RT.dflt RT.i64)) (fA (fK k')) (0 : Int) (0 : Int) (0 : Int)) ByteArray.empty (ByteArray.mk #[(101 : UInt8), (110 : UInt8), (100 : UInt8)]) false] = farH (fK k') ++ List.replicate (0 : Nat) (opL (1 : Int) (@List.nil Int))) (RQ (List.length (farH (fK k') ++ List.replicate (fN n') (opL (1 : Int) (@List.nil Int))) + List.length [Ln.mk (In5.mk (0 : Int) (0 : Int) (0 : Int) (0 : Int) (0 : Int)) (ByteArray.mk #[(101 : UInt8), (110 : UInt8), (100 : UInt8)]) ByteArray.empty false, opL (32 : Int) [(1 : Int)]] ≤ 137438953472) (RQ ((↑(fN n') : Int) = (↑(fN n') : Int) ∧ fK k' = fK k' ∧ true = true ∧ [(16 : RT.ty RT.i64), (17 : RT.ty RT.i64), (18 : RT.ty RT.i64)] = [(16 : RT.ty RT.i64), (17 : RT.ty RT.i64), (18 : RT.ty RT.i64)] ∧ [(19 : RT.ty RT.i64), (20 : RT.ty RT.i64), (21 : RT.ty RT.i64)] = [(19 : RT.ty RT.i64), (20 : RT.ty RT.i64), (21 : RT.ty RT.i64)] ∧ fA (fK k') = fA (fK k') ∧ farH (fK k') ++ List.replicate (fN n') (opL (1 : Int) (@List.nil Int)) ++ [Ln.mk (In5.mk (0 : Int) (0 : Int) (0 : Int) (0 : Int) (0 : Int)) (ByteArray.mk #[(101 : UInt8), (110 : UInt8), (100 : UInt8)]) ByteArray.empty false, opL (32 : Int) [(1 : Int)]] = farLn (fK k') (fN n')) (RQ (List.length (farLn (fK k') (fN n')) ≤ 100000 ∧ shortN (@List.nil (RT.ty RT.u32))) (RQ ((↑(fN n') : Int) = (↑(fN n') : Int) ∧ fK k' = fK k' ∧ true = true ∧ [(16 : RT.ty RT.i64), (17 : RT.ty RT.i64), (18 : RT.ty RT.i64)] = [(16 : RT.ty RT.i64), (17 : RT.ty RT.i64), (18 : RT.ty RT.i64)] ∧ [(19 : RT.ty RT.i64), (20 : RT.ty RT.i64), (21 : RT.ty RT.i64)] = [(19 : RT.ty RT.i64), (20 : RT.ty RT.i64), (21 : RT.ty RT.i64)] ∧ fA (fK k') = fA (fK k') ∧ laidE [Ob.mk (@List.nil (RT.ty RT.u32)) (oAll (farLn (fK k') (fN n'))).code (oAll (farLn (fK k') (fN n'))).map (nilR RT.rel) (oAll (farLn (fK k') (fN n'))).cr (oAll (farLn (fK k') (fN n'))).sy] = FErr.fine ∧ (linkI [Ob.mk (@List.nil (RT.ty RT.u32)) (oAll (farLn (fK k') (fN n'))).code (oAll (farLn (fK k') (fN n'))).map (nilR RT.rel) (oAll (farLn (fK k') (fN n'))).cr (oAll (farLn (fK k') (fN n'))).sy]).entry = (linkI [farO (fK k') (fN n')]).entry ∧ (linkI [Ob.mk (@List.nil (RT.ty RT.u32)) (oAll (farLn (fK k') (fN n'))).code (oAll (farLn (fK k') (fN n'))).map (nilR RT.rel) (oAll (farLn (fK k') (fN n'))).cr (oAll (farLn (fK k') (fN n'))).sy]).data = (linkI [farO (fK k') (fN n')]).data ∧ (linkI [Ob.mk (@List.nil (RT.ty RT.u32)) (oAll (farLn (fK k') (fN n'))).code (oAll (farLn (fK k') (fN n'))).map (nilR RT.rel) (oAll (farLn (fK k') (fN n'))).cr (oAll (farLn (fK k') (fN n'))).sy]).code = (linkI [farO (fK k') (fN n')]).code ∧ (linkI [Ob.mk (@List.nil (RT.ty RT.u32)) (oAll (farLn (fK k') (fN n'))).code (oAll (farLn (fK k') (fN n'))).map (nilR RT.rel) (oAll (farLn (fK k') (fN n'))).cr (oAll (farLn (fK k') (fN n'))).sy]).drefs = (linkI [farO (fK k') (fN n')]).drefs ∧ (linkI [Ob.mk (@List.nil (RT.ty RT.u32)) (oAll (farLn (fK k') (fN n'))).code (oAll (farLn (fK k') (fN n'))).map (nilR RT.rel) (oAll (farLn (fK k') (fN n'))).cr (oAll (farLn (fK k') (fN n'))).sy]).places = (linkI [farO (fK k') (fN n')]).places ∧ (linkI [Ob.mk (@List.nil (RT.ty RT.u32)) (oAll (farLn (fK k') (fN n'))).code (oAll (farLn (fK k') (fN n'))).map (nilR RT.rel) (oAll (farLn (fK k') (fN n'))).cr (oAll (farLn (fK k') (fN n'))).sy]).starts = (linkI [farO (fK k') (fN n')]).starts) (IT false (false = true) (RQ ((0 : Int) ≤ (0 : Int) ∧ 0 < (↑(List.length (linkI [farO (fK k') (fN n')]).code) : Int)) (RQ ((0 : Int) ≤ (1 : Int) ∧ (1 : Int) < (↑(List.length (linkI [farO (fK k') (fN n')]).code) : Int)) (IT (!ofOk (List.getD (linkI [farO (fK k') (fN n')]).code (Int.toNat (0 : Int)) (RT.dflt RT.u32)) || !decide ((ofF (List.getD (linkI [farO (fK k') (fN n')]).code (Int.toNat (0 : Int)) (RT.dflt RT.u32)) (List.getD (linkI [farO (fK k') (fN n')]).code (Int.toNat (1 : Int)) (RT.dflt RT.u32))).a = fA (fK k'))) (false = true) (IT (!decide ((127 : Int) < (↑(fN n') : Int) + 1)) (RQ (decide ((↑(List.length (linkI [farO (fK k') (fN n')]).code) : Int) = (↑(fN n') : Int) + 2) = true → 0 ≤ fK k' ∧ fK k' < (↑(List.length [(16 : RT.ty RT.i64), (17 : RT.ty RT.i64), (18 : RT.ty RT.i64)]) : Int)) ((decide ((↑(List.length (linkI [farO (fK k') (fN n')]).code) : Int) = (↑(fN n') : Int) + 2) && decide ((ofF (List.getD (linkI [farO (fK k') (fN n')]).code (Int.toNat (0 : Int)) (RT.dflt RT.u32)) (List.getD (linkI [farO (fK k') (fN n')]).code (Int.toNat (1 : Int)) (RT.dflt RT.u32))).op = List.getD [(16 : RT.ty RT.i64), (17 : RT.ty RT.i64), (18 : RT.ty RT.i64)] (Int.toNat (fK k')) (RT.dflt RT.i64)) && decide ((ofF (List.getD (linkI [farO (fK k') (fN n')]).code (Int.toNat (0 : Int)) (RT.dflt RT.u32)) (List.getD (linkI [farO (fK k') (fN n')]).code (Int.toNat (1 : Int)) (RT.dflt RT.u32))).c = (↑(fN n') : Int) + 1) && decide ((↑(List.length (linkI [farO (fK k') (fN n')]).places) : Int) = 0)) = true)) (RQ (decide ((↑(List.length (linkI [farO (fK k') (fN n')]).code) : Int) = (↑(fN n') : Int) + 3) = true → 0 ≤ fK k' ∧ fK k' < (↑(List.length [(19 : RT.ty RT.i64), (20 : RT.ty RT.i64), (21 : RT.ty RT.i64)]) : Int)) (RQ ((decide ((↑(List.length (linkI [farO (fK k') (fN n')]).code) : Int) = (↑(fN n') : Int) + 3) && decide ((ofF (List.getD (linkI [farO (fK k') (fN n')]).code (Int.toNat (0 : Int)) (RT.dflt RT.u32)) (List.getD (linkI [farO (fK k') (fN n')]).code (Int.toNat (1 : Int)) (RT.dflt RT.u32))).op = List.getD [(19 : RT.ty RT.i64), (20 : RT.ty RT.i64), (21 : RT.ty RT.i64)] (Int.toNat (fK k')) (RT.dflt RT.i64)) && decide ((ofF (List.getD (linkI [farO (fK k') (fN n')]).code (Int.toNat (0 : Int)) (RT.dflt RT.u32)) (List.getD (linkI [farO (fK k') (fN n')]).code (Int.toNat (1 : Int)) (RT.dflt RT.u32))).imm = 2048 + (↑(fN n') : Int) + 2)) = true → List.length (linkI [farO (fK k') (fN n')]).places ≤ 1000000) ((decide ((↑(List.length (linkI [farO (fK k') (fN n')]).code) : Int) = (↑(fN n') : Int) + 3) && decide ((ofF (List.getD (linkI [farO (fK k') (fN n')]).code (Int.toNat (0 : Int)) (RT.dflt RT.u32)) (List.getD (linkI [farO (fK k') (fN n')]).code (Int.toNat (1 : Int)) (RT.dflt RT.u32))).op = List.getD [(19 : RT.ty RT.i64), (20 : RT.ty RT.i64), (21 : RT.ty RT.i64)] (Int.toNat (fK k')) (RT.dflt RT.i64)) && decide ((ofF (List.getD (linkI [farO (fK k') (fN n')]).code (Int.toNat (0 : Int)) (RT.dflt RT.u32)) (List.getD (linkI [farO (fK k') (fN n')]).code (Int.toNat (1 : Int)) (RT.dflt RT.u32))).imm = 2048 + (↑(fN n') : Int) + 2) && decide ((linkI [farO (fK k') (fN n')]).places = [(1 : Int)])) = true)))))))))))))))) := by kernel_rfl
set_option maxHeartbeats 4000000 in
theorem cLinkFar : Con ea has (G7 ++ rest) 4 kLinkFar := by
 refine plain_mkB Tryd.func4 149 (con := [(8, kfirst13), (14, kNumber), (15, kAt), (16, kTo), (17, kOp), (18, kObjectRF), (10, kLinkF), (12, krOf), (19, kfIF)]) ⟨cfirst13, cNumber, cAt, cTo, cOp, cObjectRF, cLinkF, crOf, cfIF, trivial⟩ (fun hA hr hv => ?_) (by kernel_rfl) (by kernel_rfl) Tryd.ntmps4
 unfold kLinkFar at hr; split at hr
 ·rename_i n' k'
  have := ret_ok hr; subst this
  refine ⟨_, [(2000011, cutL { fr := farFr (fK k'.val) (fN n'.val), hp := [], next := 0, sz := 149 }), (13, LfarL (fK k'.val) (fN n'.val)), (1000016, cutL { fr := farFr (fK k'.val) (fN n'.val) ++ [(9, .own 0)], hp := [(0, some (.recs .line (farLn (fK k'.val) (fN n'.val))))], next := 1, sz := 149 }), (1000017, cutL { fr := farFr (fK k'.val) (fN n'.val) ++ [(11, .ptr 0 0), (12, .err .fine)], hp := [(0, some (.cells (imgV (linkI [farO (fK k'.val) (fN n'.val)]))))], next := 1, sz := 149 })], rfl, rfl, .of (argLinkFar n' k') (by simp), rfl, (fun W R ρ0 own0 hown => hl1 (by kernel_rfl) (by kernel_rfl) (lfarL (fK k'.val) (fN n'.val) hown)), .of (runLinkFar rest n'.val k'.val) ?_⟩
  delta RQ IT
  clear hr
  have hK : 0 ≤ fK k'.val ∧ fK k'.val < 3 := by unfold fK; omega
  have hN : (n'.val % 60 + 100) = ((fN n'.val : Nat) : Int) := by unfold fN; omega
  have hN2 : 100 ≤ fN n'.val ∧ fN n'.val < 160 := by unfold fN; omega
  have hw : IntKind.i64.wrap (n'.val % 60 + 100) = ((fN n'.val : Nat) : Int) := by rw [hN, IntKind.wrap_i64] <;> omega
  have e0 : k'.val % 3 = fK k'.val := rfl
  rw [hw, e0]
  generalize fK k'.val = K at hK
  generalize fN n'.val = N at hN2
  have g16 : ([16, 17, 18] : List Int).getD K.toNat RT.i64.dflt = 16 + K := by rcases k3 hK with rfl | rfl | rfl <;> rfl
  have g19 : ([19, 20, 21] : List Int).getD K.toNat RT.i64.dflt = 19 + K := by rcases k3 hK with rfl | rfl | rfl <;> rfl
  rw [g16, g19]
  have hlen : (farLn K N).length = N + 4 := by unfold farLn; simp [List.length_append]
  have em : (⟨[], (oAll (farLn K N)).code, (oAll (farLn K N)).map, nilR RT.rel, (oAll (farLn K N)).cr, (oAll (farLn K N)).sy⟩ : Ob) = farO K N := far_mk hK N
  rw [em]
  obtain ⟨e1, c1, p1, nr, fr⟩ := far_img hK (n := N) (by omega)
  rw [e1]
  generalize hI : imgM [farO K N] (farG K N) = I at *
  have hf := far_laid hK (n := N) (by omega)
  refine ⟨by omega, fun _ => ⟨by omega, fun _ => ⟨⟨fun h => ?_, fun h => ?_⟩, ⟨by omega, by show K < 3; omega⟩, fun _ => ⟨⟨by omega, rfl, rfl, rfl, rfl, rfl, rfl, rfl, rfl⟩, fun _ => ⟨?_, fun _ => ⟨⟨rfl, rfl, rfl, rfl, rfl, rfl, ?_⟩, fun _ => ⟨⟨by omega, Nat.zero_le _⟩, fun _ => ⟨⟨rfl, rfl, rfl, rfl, rfl, rfl, hf, rfl, rfl, rfl, rfl, rfl, rfl⟩, fun _ => ⟨fun h => absurd h (by decide), fun _ => ⟨?_, fun _ => ⟨?_, fun _ => ⟨fun h => ?_, fun _ => ⟨fun h => ?_, fun h => ?_⟩⟩⟩⟩⟩⟩⟩⟩⟩⟩⟩⟩⟩
  ·have h := of_decide_eq_true h
   exact ⟨rfl, ⟨by omega, by omega⟩, rfl, ⟨by omega, by omega⟩, rfl, rfl, rfl, by unfold fA; rw [if_pos h]⟩
  ·have h := of_decide_eq_false h
   exact ⟨rfl, ⟨by omega, by omega⟩, rfl, ⟨by omega, by omega⟩, rfl, rfl, rfl, by unfold fA; rw [if_neg h]⟩
  ·rw [List.length_append, List.length_replicate]
   show 2 + N + 2 ≤ _
   omega
  ·rfl
  ·have : (I.code.length : Int) = N + 2 + if 127 < N + 1 then 1 else 0 := by rw [c1]; split <;> omega
   split at this <;> omega
  ·have : (I.code.length : Int) = N + 2 + if 127 < N + 1 then 1 else 0 := by rw [c1]; split <;> omega
   split at this <;> omega
  ·exfalso
   have k0 : I.code.getD (Int.toNat 0) RT.u32.dflt = I.code.getD 0 0 := rfl
   have k1 : I.code.getD (Int.toNat 1) RT.u32.dflt = I.code.getD 1 0 := rfl
   rw [k0, k1] at h
   by_cases hh : 127 < N + 1
   ·obtain ⟨q1, _⟩ := fr hh
    rw [q1] at h
    obtain ⟨w1, w2, _⟩ := far_far hK (I.code.getD 1 0)
    rw [w1, w2, decide_eq_true rfl] at h; exact absurd h (by decide)
   ·rw [nr hh] at h
    obtain ⟨w1, w2, _⟩ := far_near hK (c := N + 1) (by omega) (I.code.getD 1 0)
    rw [w1, w2, decide_eq_true rfl] at h; exact absurd h (by decide)
  ·rw [Bool.not_eq_true', decide_eq_false_iff_not] at h
   have hh : ¬ 127 < N + 1 := by omega
   refine ⟨fun _ => ⟨by omega, by show K < 3; omega⟩, fun _ => ?_⟩
   have k0 : I.code.getD (Int.toNat 0) RT.u32.dflt = I.code.getD 0 0 := rfl
   rw [k0, nr hh]
   obtain ⟨_, _, w3, w4⟩ := far_near hK (c := N + 1) (by omega) (I.code.getD (Int.toNat 1) RT.u32.dflt)
   rw [w3, w4, c1, p1, if_neg hh, if_neg hh]
   simp
  ·rw [Bool.not_eq_false', decide_eq_true_eq] at h
   have hh : 127 < N + 1 := by omega
   have pl : I.places = [1] := by rw [p1, if_pos hh]
   refine ⟨fun _ => ⟨by omega, by show K < 3; omega⟩, fun _ => ⟨fun _ => by rw [pl]; decide, fun _ => ?_⟩⟩
   obtain ⟨q0, q1⟩ := fr hh
   have k0 : I.code.getD (Int.toNat 0) RT.u32.dflt = I.code.getD 0 0 := rfl
   have k1 : I.code.getD (Int.toNat 1) RT.u32.dflt = I.code.getD 1 0 := rfl
   rw [k0, k1, q0, q1]
   obtain ⟨_, _, w3, w4⟩ := far_far hK (2048 + (N : Int) + 2)
   rw [w3, w4, c1, pl, if_pos hh]
   simp; omega
 ·cases hr
end
end Go.Proofs.YtacmmedhjebfjaaDoor
set_option linter.unusedVariables false
set_option linter.unusedSimpArgs false
set_option maxRecDepth 100000
namespace Go.Proofs.YtacmmedhjebfjaaDoor
open Go.ChangeShapes Go.RowKit Go.Sy
theorem own : ownKnob Tryd.prog.godebug = none := by kernel_rfl
theorem laidOut : laidOutB Tryd.prog = true := by kernel_rfl
section
variable {W : World} {H : Type} {enc : TypeId × Value → H} {C : Ctx} {R : Nat → Prop} {ρ : Nat → Option Value} {base : Nat} {sp : Nat → Bool} {held : Bool} {r : Reach} {b0 : Nat}
theorem open_num {v : Value} {d : DataW H} {ps : List MemPlace} (hv : Value.okWide Tryd.prog W r b0 3 v) (h : DataW.Trod enc Tryd.prog W base sp held 3 v d ps) :
  ∃ n : Int, v = .int .i64 n ∧ InI .i64 (.full n) := by
 obtain ⟨n, rfl, _, _, hw⟩ := open_int Tryd.underlying3 hv h
 exact ⟨n, rfl, wf_in hw⟩
end
def txt : DataW Unit → List UInt8
 | .iface _ (.ptr (.agg [.lit (.string s)])) => s
 | _ => []
def L7 : List Snt := [⟨"facade/api.ErrShape", 3, 102, txt Rows.laid_facade_api_ErrShape⟩, ⟨"facade/api.ErrRange", 7, 103, txt Rows.laid_facade_api_ErrRange⟩, ⟨"facade/api.ErrMany", 1, 104, txt Rows.laid_facade_api_ErrMany⟩,
 ⟨"facade/api.ErrOp", 6, 105, txt Rows.laid_facade_api_ErrOp⟩, ⟨"facade/api.ErrTwice", 2, 106, txt Rows.laid_facade_api_ErrTwice⟩, ⟨"facade/api.ErrNone", 0, 107, txt Rows.laid_facade_api_ErrNone⟩, ⟨"facade/api.ErrMap", 4, 109, txt Rows.laid_facade_api_ErrMap⟩]
abbrev nmE : String := "*errors.errorString"
theorem star : "*" ++ "errors.errorString" = nmE := by decide
theorem err_types : ErrTypes Tryd.prog 31 193 214 9 nmE where
 hi := ⟨_, Tryd.underlying31⟩
 row := fun u h => typeName_ptr_named (nm := "errors.errorString") (by rw [star]; kernel_rfl) (by kernel_rfl) (by decide) u (by rw [star]; exact h)
 hp := Tryd.underlying193
 he := ⟨_, Tryd.underlying214, rfl, rfl⟩
 hs := Tryd.underlying9
 ce := by kernel_rfl
 cs := by kernel_rfl
theorem named_of {L : List Snt} (h : (L.all fun x => Tryd.prog.globalNamed x.name == some x.g && (Tryd.prog.globals[x.g]?).map (·.type) == some 31) = true) : ∀ x ∈ L, Tryd.prog.globalNamed x.name = some x.g ∧ (Tryd.prog.globals[x.g]?).map (·.type) = some 31 := fun x hx => by
 have := List.all_eq_true.1 h x hx
 simpa using this
end Go.Proofs.YtacmmedhjebfjaaDoor
