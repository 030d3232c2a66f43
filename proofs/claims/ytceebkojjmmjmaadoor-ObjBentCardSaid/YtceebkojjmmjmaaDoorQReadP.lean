/- Contracts that the proofs use. -/
import Derived.Test.YtceebkojjmmjmaaDoorQFnRead3
set_option linter.unusedVariables false
set_option linter.unusedSimpArgs false
namespace Go.Proofs.YtceebkojjmmjmaaDoor
open Go.RowKit Go.Sy Go.Fac
def byt (l : List Int) : Prop := ∀ x ∈ l, 0 ≤ x ∧ x < 256
theorem byt_app {l k : List Int} (h : byt (l ++ k)) : byt l ∧ byt k := ⟨fun x hx => h x (List.mem_append_left _ hx), fun x hx => h x (List.mem_append_right _ hx)⟩
theorem isE {e : FErr} (h : e.isErr = false) : e = .fine := by cases e <;> first | rfl | cases h
theorem tk_print {n : Int} {x y : List Int} (h : (x.length : Int) = n) : tkL n (x ++ y) .fine = y ∧ tkE n (x ++ y) .fine = .fine ∧ tkX n (x ++ y) .fine = x := by
  have h1 : ¬ FErr.fine.isErr = true := by decide
  have h2 : ¬ (((x ++ y).length : Nat) : Int) < n := by rw [List.length_append]; omega
  have h3 : n.toNat = x.length := by omega
  rw [tkL_is, tkE_is, tkX_is, if_neg h1, if_neg h1, if_neg h1, if_neg h2, if_neg h2, if_neg h2, h3, List.drop_left, List.take_left]
  exact ⟨rfl, rfl, rfl⟩
theorem tk_back {n : Int} {l : List Int} {e : FErr} (hn : 0 ≤ n) (h : (tkE n l e).isErr = false) : e = .fine ∧ l = tkX n l e ++ tkL n l e ∧ ((tkX n l e).length : Int) = n := by
  have hl := tkX_len hn h
  rw [tkE_is] at h
  cases he : e.isErr with
  | true => rw [he, if_pos rfl, he] at h; cases h
  | false =>
    rw [he, if_neg (by decide)] at h
    by_cases h2 : (l.length : Int) < n
    · rw [if_pos h2] at h; cases h
    · refine ⟨isE he, ?_, by omega⟩
      have h' : ¬ e.isErr = true := by rw [he]; decide
      rw [tkX_is, tkL_is, if_neg h', if_neg h', if_neg h2, if_neg h2, List.take_append_drop]
theorem or32 {a h : Int} (k : Nat) (ha0 : 0 ≤ a) (ha : a < 2 ^ k) (hh : 0 ≤ h) (hs : h * 2 ^ k < 2 ^ 32) (hk : (2 : Int) ^ k ≤ 2 ^ 32) : bits .or .u32 a (h * 2 ^ k) = a + h * 2 ^ k := by
  have hp : (0 : Int) < 2 ^ k := Int.pow_pos (by decide)
  have hm0 : 0 ≤ h * 2 ^ k := Int.mul_nonneg hh (Int.le_of_lt hp)
  obtain ⟨x, hx⟩ := Int.eq_ofNat_of_zero_le ha0
  obtain ⟨y, hy⟩ := Int.eq_ofNat_of_zero_le hm0
  have hxl : x < 2 ^ 32 := by omega
  have hyl : y < 2 ^ 32 := by omega
  have c1 := (bits_nat .u32 32 (by decide) wraps32 x y hxl hyl).2
  have c2 := (bits_nat .u32 32 (by decide) wraps32 y x hyl hxl).2
  have e1 : bits .or .u32 a (h * 2 ^ k) = bits .or .u32 (h * 2 ^ k) a := by rw [hx, hy, c1, c2, Nat.or_comm]
  rw [e1, u32_or_hi k (h * 2 ^ k) a hm0 (Int.mul_emod_left ..) hs ha0 ha (by omega)]
  omega
theorem acc4 {a b c d : Int} (ha : 0 ≤ a ∧ a < 256) (hb : 0 ≤ b ∧ b < 256) (hc : 0 ≤ c ∧ c < 256) (hd : 0 ≤ d ∧ d < 256) : accW [a, b, c, d] 4 = a + b * 256 + c * 65536 + d * 16777216 := by
  have w : ∀ x : Int, 0 ≤ x → x < 4294967296 → IntKind.u32.wrap x = x := fun x h1 h2 => by rw [IntKind.wrap_u32]; omega
  have p1 : accW [a, b, c, d] 1 = a := by
    rw [accW_succ, accW_zero]
    show bits .or .u32 0 (IntKind.u32.wrap (a * 1)) = a
    rw [w _ (by omega) (by omega)]
    have := or32 (a := 0) (h := a) 0 (by decide) (by decide) ha.1 (by omega) (by decide)
    simpa using this
  have p2 : accW [a, b, c, d] 2 = a + b * 256 := by
    rw [accW_succ, p1]
    show bits .or .u32 a (IntKind.u32.wrap (b * 256)) = _
    rw [w _ (by omega) (by omega)]
    exact or32 8 ha.1 (by omega) hb.1 (by omega) (by decide)
  have p3 : accW [a, b, c, d] 3 = a + b * 256 + c * 65536 := by
    rw [accW_succ, p2]
    show bits .or .u32 (a + b * 256) (IntKind.u32.wrap (c * 65536)) = _
    rw [w _ (by omega) (by omega)]
    exact or32 16 (by omega) (by omega) hc.1 (by omega) (by decide)
  rw [accW_succ, p3]
  show bits .or .u32 (a + b * 256 + c * 65536) (IntKind.u32.wrap (d * 16777216)) = _
  rw [w _ (by omega) (by omega)]
  exact or32 24 (by omega) (by omega) hd.1 (by omega) (by decide)
theorem wordB_is {w : Int} : wordB w = [w % 256, w / 256 % 256, w / 65536 % 256, w / 16777216] := by
  unfold wordB; rw [IntKind.wrap_u8, IntKind.wrap_u8, IntKind.wrap_u8]
theorem accW_print {w : Int} (h : 0 ≤ w ∧ w < 4294967296) : accW (wordB w) 4 = w := by
  rw [wordB_is, acc4 (by omega) (by omega) (by omega) (by omega)]; omega
theorem accW_back {x : List Int} (hx : byt x) (hl : x.length = 4) : wordB (accW x 4) = x := by
  match x, hl with
  | [a, b, c, d], _ =>
    have ha := hx a (by simp)
    have hb := hx b (by simp)
    have hc := hx c (by simp)
    have hd := hx d (by simp)
    rw [acc4 ha hb hc hd, wordB_is]
    have e1 : (a + b * 256 + c * 65536 + d * 16777216) % 256 = a := by omega
    have e2 : (a + b * 256 + c * 65536 + d * 16777216) / 256 % 256 = b := by omega
    have e3 : (a + b * 256 + c * 65536 + d * 16777216) / 65536 % 256 = c := by omega
    have e4 : (a + b * 256 + c * 65536 + d * 16777216) / 16777216 = d := by omega
    rw [e1, e2, e3, e4]
theorem wordB_len (w : Int) : (wordB w).length = 4 := rfl
theorem w4_print {w : Int} (y : List Int) (h : 0 ≤ w ∧ w < 4294967296) : w4L (wordB w ++ y) .fine = y ∧ w4E (wordB w ++ y) .fine = .fine ∧ w4W (wordB w ++ y) .fine = w := by
  obtain ⟨t1, t2, t3⟩ := tk_print (n := 4) (x := wordB w) (y := y) (by rw [wordB_len]; rfl)
  refine ⟨t1, t2, ?_⟩
  rw [w4W_is, t2, if_neg (by decide), t3, accW_print h]
theorem w4_back {l : List Int} {e : FErr} (hb : byt l) (h : (w4E l e).isErr = false) : e = .fine ∧ l = wordB (w4W l e) ++ w4L l e := by
  obtain ⟨h1, h2, h3⟩ := tk_back (n := 4) (by decide) h
  have h4 : w4W l e = accW (tkX 4 l e) 4 := by rw [w4W_is]; exact if_neg (by show ¬ (w4E l e).isErr = true; rw [h]; decide)
  have hx : byt (tkX 4 l e) := by rw [h2] at hb; exact (byt_app hb).1
  refine ⟨h1, ?_⟩
  rw [h4, accW_back hx (by omega)]
  exact h2
theorem up_print {top w : Int} {x : FErr} (y : List Int) (h : 0 ≤ w ∧ w < 4294967296) (ht : w ≤ top) : w4L (wordB w ++ y) .fine = y ∧ upE top x (wordB w ++ y) .fine = .fine ∧ upN top (wordB w ++ y) .fine = w := by
  obtain ⟨t1, t2, t3⟩ := w4_print y h
  have hn : ¬ ((w4E (wordB w ++ y) .fine).isErr = false ∧ top < w4W (wordB w ++ y) .fine) := by rw [t3]; intro hc; omega
  rw [upE_is, upN_is, if_neg hn, if_neg hn]
  exact ⟨t1, t2, t3⟩
theorem up_back {top : Int} {x : FErr} {l : List Int} {e : FErr} (hb : byt l) (hx : x.isErr = true) (h : (upE top x l e).isErr = false) : e = .fine ∧ l = wordB (upN top l e) ++ w4L l e := by
  rw [upE_is] at h
  by_cases hc : (w4E l e).isErr = false ∧ top < w4W l e
  · rw [if_pos hc, hx] at h; cases h
  · rw [if_neg hc] at h
    rw [upN_is, if_neg hc]
    exact w4_back hb h
section
variable {α : Type} {fL : List Int → FErr → List Int} {fE : List Int → FErr → FErr} {fX : List Int → FErr → α} {pr : α → List Int} {ok : α → Prop}
theorem it_print (P : ∀ a y, ok a → fL (pr a ++ y) .fine = y ∧ fE (pr a ++ y) .fine = .fine ∧ fX (pr a ++ y) .fine = a) (xs : List α) (y : List Int) (h : ∀ a ∈ xs, ok a) : ∀ n, n ≤ xs.length → itS fL fE fX (xs.flatMap pr ++ y) .fine n = ((xs.drop n).flatMap pr ++ y, .fine, xs.take n)
  | 0, _ => by rw [itS_zero]; rfl
  | n + 1, hn => by
    have ih := it_print P xs y h n (by omega)
    have hlt : n < xs.length := by omega
    have hp := P xs[n] ((xs.drop (n + 1)).flatMap pr ++ y) (h _ (List.getElem_mem hlt))
    rw [itS_succ, ih, if_neg (show ¬ FErr.fine.isErr = true by decide)]
    simp only
    rw [List.drop_eq_getElem_cons hlt, List.flatMap_cons, List.append_assoc, hp.1, hp.2.1, hp.2.2, List.take_add_one, List.getElem?_eq_getElem hlt]
    rfl
theorem it_fine {l : List Int} {e : FErr} {n : Nat} (h : (itS fL fE fX l e n).2.1.isErr = false) : ∀ i, i ≤ n → (itS fL fE fX l e i).2.1.isErr = false := by
  intro i hi
  cases hc : (itS fL fE fX l e i).2.1.isErr with
  | false => rfl
  | true => rw [itS_stuck hc hi, hc] at h; cases h
theorem it_back (I : ∀ l e, byt l → (fE l e).isErr = false → e = .fine ∧ l = pr (fX l e) ++ fL l e) {l : List Int} {e : FErr} (hb : byt l) : ∀ n, (itS fL fE fX l e n).2.1.isErr = false → e = .fine ∧ l = (itS fL fE fX l e n).2.2.flatMap pr ++ (itS fL fE fX l e n).1 ∧ (itS fL fE fX l e n).2.2.length = n
  | 0 => by
    rw [itS_zero]
    intro h
    exact ⟨isE h, rfl, rfl⟩
  | n + 1 => by
    intro h
    have hn := it_fine h n (by omega)
    obtain ⟨i1, i2, i3⟩ := it_back I hb n hn
    rw [itS_succ, if_neg (by rw [hn]; decide)] at h ⊢
    have hb2 : byt (itS fL fE fX l e n).1 := by rw [i2] at hb; exact (byt_app hb).2
    obtain ⟨j1, j2⟩ := I _ _ hb2 h
    refine ⟨i1, ?_, ?_⟩
    · show l = ((itS fL fE fX l e n).2.2 ++ [_]).flatMap pr ++ _
      rw [List.flatMap_append, List.append_assoc]
      simp only [List.flatMap_cons, List.flatMap_nil, List.append_nil]
      rw [← j2, ← i2]
    · show ((itS fL fE fX l e n).2.2 ++ [_]).length = _
      rw [List.length_append, i3]; rfl
theorem it_none {l : List Int} {e : FErr} {n : Nat} (h : (itS fL fE fX l e n).2.1.isErr = false) : noneQ (fun i => (itS fL fE fX l e i).2.1.isErr) n = true :=
  noneQ_iff.2 fun i hi => it_fine h i (by omega)
end
theorem rcL_is (l : List Int) (e : FErr) : rcL l e = w4L (r3L l e) (r3E l e) := hide_eq _
theorem rcE_is (l : List Int) (e : FErr) : rcE l e = w4E (r3L l e) (r3E l e) := hide_eq _
theorem rcX_is (l : List Int) (e : FErr) : rcX l e = ⟨upN 2147483647 l e, upN 2147483647 (r1L l e) (r1E l e), upN 2147483647 (r2L l e) (r2E l e), IntKind.i32.wrap (w4W (r3L l e) (r3E l e))⟩ := hide_eq _
def okR (r : Rel) : Prop := (0 ≤ r.at_ ∧ r.at_ ≤ 2147483647) ∧ (0 ≤ r.kind ∧ r.kind ≤ 2147483647) ∧ (0 ≤ r.sym ∧ r.sym ≤ 2147483647) ∧ (-2147483648 ≤ r.add ∧ r.add ≤ 2147483647)
theorem wB4 (a b c d : Int) : wordsB [a, b, c, d] = wordB a ++ (wordB b ++ (wordB c ++ wordB d)) := by unfold wordsB; simp
theorem w32_id {x : Int} (h : 0 ≤ x ∧ x < 4294967296) : IntKind.u32.wrap x = x := by rw [IntKind.wrap_u32]; omega
theorem rel_print (r : Rel) (y : List Int) (h : okR r) : rcL (relB r ++ y) .fine = y ∧ rcE (relB r ++ y) .fine = .fine ∧ rcX (relB r ++ y) .fine = r := by
  obtain ⟨h1, h2, h3, h4⟩ := h
  have e : relB r ++ y = wordB r.at_ ++ (wordB r.kind ++ (wordB r.sym ++ (wordB (IntKind.u32.wrap r.add) ++ y))) := by
    unfold relB; rw [wB4, w32_id (by omega), w32_id (x := r.kind) (by omega), w32_id (x := r.sym) (by omega)]; simp
  rw [e, rcL_is, rcE_is, rcX_is]
  obtain ⟨a1, a2, a3⟩ := up_print (top := 2147483647) (x := .bare 103) (wordB r.kind ++ (wordB r.sym ++ (wordB (IntKind.u32.wrap r.add) ++ y))) (w := r.at_) (by omega) h1.2
  unfold r3L r3E r2L r2E r1L r1E
  rw [a1, a2, a3]
  obtain ⟨b1, b2, b3⟩ := up_print (top := 2147483647) (x := .bare 103) (wordB r.sym ++ (wordB (IntKind.u32.wrap r.add) ++ y)) (w := r.kind) (by omega) h2.2
  rw [b1, b2, b3]
  obtain ⟨c1, c2, c3⟩ := up_print (top := 2147483647) (x := .bare 103) (wordB (IntKind.u32.wrap r.add) ++ y) (w := r.sym) (by omega) h3.2
  rw [c1, c2, c3]
  obtain ⟨d1, d2, d3⟩ := w4_print y (w := IntKind.u32.wrap r.add) (by rw [IntKind.wrap_u32]; omega)
  rw [d1, d2, d3]
  refine ⟨rfl, rfl, ?_⟩
  have : IntKind.i32.wrap (IntKind.u32.wrap r.add) = r.add := by rw [IntKind.wrap_u32, IntKind.wrap_i32]; omega
  rw [this]
theorem e103 : (FErr.bare 103).isErr = true := rfl
theorem byt_w4 {l : List Int} {w : Int} {y : List Int} (hb : byt l) (h : l = wordB w ++ y) : byt y := by rw [h] at hb; exact (byt_app hb).2
theorem rel_back (l : List Int) (e : FErr) (hb : byt l) (h : (rcE l e).isErr = false) : e = .fine ∧ l = relB (rcX l e) ++ rcL l e := by
  rw [rcE_is] at h
  have hb1 : byt (r1L l e) ∧ byt (r2L l e) ∧ byt (r3L l e) → True := fun _ => trivial
  -- backwards: each state is fine
  have s3 : (r3E l e).isErr = false := by
    cases hc : (r3E l e).isErr with
    | false => rfl
    | true =>
      have : w4E (r3L l e) (r3E l e) = r3E l e := by unfold w4E; rw [tkE_is, if_pos hc]
      rw [this, hc] at h; cases h
  have stay : ∀ l e, e.isErr = true → (upE 2147483647 (.bare 103) l e).isErr = true := fun l e he => by
    have hw : w4E l e = e := by unfold w4E; rw [tkE_is, if_pos he]
    rw [upE_is, if_neg (by rw [hw, he]; intro hc; cases hc.1), hw]; exact he
  have s2 : (r2E l e).isErr = false := by
    cases hc : (r2E l e).isErr with
    | false => rfl
    | true => have := stay (r2L l e) (r2E l e) hc; rw [show upE 2147483647 (.bare 103) (r2L l e) (r2E l e) = r3E l e from rfl, s3] at this; cases this
  have s1 : (r1E l e).isErr = false := by
    cases hc : (r1E l e).isErr with
    | false => rfl
    | true => have := stay (r1L l e) (r1E l e) hc; rw [show upE 2147483647 (.bare 103) (r1L l e) (r1E l e) = r2E l e from rfl, s2] at this; cases this
  obtain ⟨a1, a2⟩ := up_back hb e103 s1
  have hb1 : byt (r1L l e) := byt_w4 hb a2
  obtain ⟨b1, b2⟩ := up_back hb1 e103 s2
  have hb2 : byt (r2L l e) := byt_w4 hb1 b2
  obtain ⟨c1, c2⟩ := up_back hb2 e103 s3
  have hb3 : byt (r3L l e) := byt_w4 hb2 c2
  obtain ⟨d1, d2⟩ := w4_back hb3 h
  have n1 := upN_le (top := 2147483647) (by decide) l e
  have n2 := upN_le (top := 2147483647) (by decide) (r1L l e) (r1E l e)
  have n3 := upN_le (top := 2147483647) (by decide) (r2L l e) (r2E l e)
  have n4 := w4W_in (r3L l e) (r3E l e)
  refine ⟨a1, ?_⟩
  rw [rcX_is, rcL_is]
  unfold relB
  rw [wB4]
  simp only
  rw [w32_id (by omega), w32_id (x := upN 2147483647 (r1L l e) (r1E l e)) (by omega), w32_id (x := upN 2147483647 (r2L l e) (r2E l e)) (by omega)]
  have : IntKind.u32.wrap (IntKind.i32.wrap (w4W (r3L l e) (r3E l e))) = w4W (r3L l e) (r3E l e) := by rw [IntKind.wrap_u32, IntKind.wrap_i32]; omega
  rw [this]
  simp only [List.append_assoc]
  have d2 : r3L l e = wordB (w4W (r3L l e) (r3E l e)) ++ w4L (r3L l e) (r3E l e) := d2
  rw [← d2]
  have c2 : r2L l e = wordB (upN 2147483647 (r2L l e) (r2E l e)) ++ r3L l e := c2
  rw [← c2]
  have b2 : r1L l e = wordB (upN 2147483647 (r1L l e) (r1E l e)) ++ r2L l e := b2
  rw [← b2]
  exact a2
end Go.Proofs.YtceebkojjmmjmaaDoor

