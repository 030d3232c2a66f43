/- Contracts that the proofs use. -/
import Derived.Test.YtceebkojjmmjmaaDoorQReadP
set_option linter.unusedVariables false
set_option linter.unusedSimpArgs false
namespace Go.Proofs.YtceebkojjmmjmaaDoor
open Go.RowKit Go.Sy Go.Fac
theorem up_stay {top : Int} {x : FErr} {l : List Int} {e : FErr} (he : e.isErr = true) : upE top x l e = e := by
  have hw : w4E l e = e := by unfold w4E; rw [tkE_is, if_pos he]
  rw [upE_is, if_neg (by rw [hw, he]; intro hc; cases hc.1), hw]
theorem up_fine {top : Int} {x : FErr} {l : List Int} {e : FErr} (h : (upE top x l e).isErr = false) : e.isErr = false := by
  cases hc : e.isErr with
  | false => rfl
  | true => rw [up_stay hc, hc] at h; cases h
theorem bytesL_byt (s : ByteArray) : byt (bytesL s) := by
  unfold bytesL; intro x hx
  obtain ⟨u, _, rfl⟩ := List.mem_map.1 hx
  have := u.toNat_lt
  omega
theorem str_bytes (s : ByteArray) : strOfNums (bytesL s) = s := by
  unfold strOfNums bytesL
  rw [List.map_map]
  have : ((fun n : Int => UInt8.ofNat n.toNat) ∘ fun x : UInt8 => ((x.toNat : Nat) : Int)) = id := by
    funext x; simp
  rw [this, List.map_id]
theorem bytes_str {x : List Int} (h : byt x) : bytesL (strOfNums x) = x := by
  unfold bytesL
  rw [strOfNums_data, List.map_map]
  conv => rhs; rw [← List.map_id x]
  apply List.map_congr_left
  intro a ha
  have := h a ha
  simp only [Function.comp, id]
  rw [UInt8.toNat_ofNat_of_lt' (by show a.toNat < 256; omega)]
  omega
theorem bytesL_len (s : ByteArray) : (bytesL s).length = s.size := by unfold bytesL; simp
theorem smL_is (l : List Int) (e : FErr) : smL l e = tkL (upN 32 (s3L l e) (s3E l e)) (s4L l e) (s4E l e) := hide_eq _
theorem smE_is (l : List Int) (e : FErr) : smE l e = tkE (upN 32 (s3L l e) (s3E l e)) (s4L l e) (s4E l e) := hide_eq _
theorem smX_is (l : List Int) (e : FErr) : smX l e = ⟨strOfNums (tkX (upN 32 (s3L l e) (s3E l e)) (s4L l e) (s4E l e)), upN 2147483647 l e, upN 2147483647 (r1L l e) (r1E l e), decide (0 < upN 1 (r2L l e) (r2E l e))⟩ := hide_eq _
def okS (s : Sm) : Prop := (0 ≤ s.in_ ∧ s.in_ ≤ 2147483647) ∧ (0 ≤ s.value ∧ s.value ≤ 2147483647) ∧ s.name.size ≤ 32
theorem sym_print (s : Sm) (y : List Int) (h : okS s) : smL (symB s ++ y) .fine = y ∧ smE (symB s ++ y) .fine = .fine ∧ smX (symB s ++ y) .fine = s := by
  obtain ⟨h1, h2, h3⟩ := h
  have e : symB s ++ y = wordB s.in_ ++ (wordB s.value ++ (wordB (if s.global = true then 1 else 0) ++ (wordB (s.name.size : Nat) ++ (bytesL s.name ++ y)))) := by
    unfold symB; rw [wB4, w32_id (by omega), w32_id (x := s.value) (by omega), w32_id (x := (s.name.size : Nat)) (by omega)]; simp
  rw [e, smL_is, smE_is, smX_is]
  unfold s4L s4E s3L s3E r2L r2E r1L r1E
  obtain ⟨a1, a2, a3⟩ := up_print (top := 2147483647) (x := .bare 103) (wordB s.value ++ (wordB (if s.global = true then 1 else 0) ++ (wordB (s.name.size : Nat) ++ (bytesL s.name ++ y)))) (w := s.in_) (by omega) h1.2
  rw [a1, a2, a3]
  obtain ⟨b1, b2, b3⟩ := up_print (top := 2147483647) (x := .bare 103) (wordB (if s.global = true then 1 else 0) ++ (wordB (s.name.size : Nat) ++ (bytesL s.name ++ y))) (w := s.value) (by omega) h2.2
  rw [b1, b2, b3]
  have hg : 0 ≤ (if s.global = true then (1 : Int) else 0) ∧ (if s.global = true then (1 : Int) else 0) ≤ 1 := by split <;> decide
  obtain ⟨c1, c2, c3⟩ := up_print (top := 1) (x := .bare 103) (wordB (s.name.size : Nat) ++ (bytesL s.name ++ y)) (w := if s.global = true then 1 else 0) (by omega) hg.2
  rw [c1, c2, c3]
  obtain ⟨d1, d2, d3⟩ := up_print (top := 32) (x := .bare 103) (bytesL s.name ++ y) (w := (s.name.size : Nat)) (by omega) (by omega)
  rw [d1, d2, d3]
  obtain ⟨f1, f2, f3⟩ := tk_print (n := (s.name.size : Nat)) (x := bytesL s.name) (y := y) (by rw [bytesL_len])
  rw [f1, f2, f3, str_bytes]
  refine ⟨rfl, rfl, ?_⟩
  obtain ⟨n, i, v, g⟩ := s
  cases g <;> rfl
theorem sym_back (l : List Int) (e : FErr) (hb : byt l) (h : (smE l e).isErr = false) : e = .fine ∧ l = symB (smX l e) ++ smL l e := by
  rw [smE_is] at h
  have n5 := upN_le (top := 32) (by decide) (s3L l e) (s3E l e)
  obtain ⟨f1, f2, f3⟩ := tk_back n5.1 h
  have s4 : (upE 32 (.bare 103) (s3L l e) (s3E l e)).isErr = false := by show (s4E l e).isErr = false; rw [f1]; rfl
  have s3 : (upE 1 (.bare 103) (r2L l e) (r2E l e)).isErr = false := up_fine s4
  have s2 : (upE 2147483647 (.bare 103) (r1L l e) (r1E l e)).isErr = false := up_fine s3
  have s1 : (upE 2147483647 (.bare 103) l e).isErr = false := up_fine s2
  obtain ⟨a1, a2⟩ := up_back hb e103 s1
  have hb1 : byt (r1L l e) := byt_w4 hb a2
  obtain ⟨b1, b2⟩ := up_back hb1 e103 s2
  have hb2 : byt (r2L l e) := byt_w4 hb1 b2
  obtain ⟨c1, c2⟩ := up_back hb2 e103 s3
  have hb3 : byt (s3L l e) := byt_w4 hb2 c2
  obtain ⟨d1, d2⟩ := up_back hb3 e103 s4
  have hb4 : byt (s4L l e) := byt_w4 hb3 d2
  have hx : byt (tkX (upN 32 (s3L l e) (s3E l e)) (s4L l e) (s4E l e)) := by rw [f2] at hb4; exact (byt_app hb4).1
  have n1 := upN_le (top := 2147483647) (by decide) l e
  have n2 := upN_le (top := 2147483647) (by decide) (r1L l e) (r1E l e)
  have n3 := upN_le (top := 1) (by decide) (r2L l e) (r2E l e)
  refine ⟨a1, ?_⟩
  rw [smX_is, smL_is]
  unfold symB
  rw [wB4]
  simp only
  rw [w32_id (by omega), w32_id (x := upN 2147483647 (r1L l e) (r1E l e)) (by omega), bytes_str hx, strOfNums_size, w32_id (by omega), f3]
  have hg : (if decide (0 < upN 1 (r2L l e) (r2E l e)) = true then (1 : Int) else 0) = upN 1 (r2L l e) (r2E l e) := by
    by_cases hc : 0 < upN 1 (r2L l e) (r2E l e)
    · rw [decide_eq_true hc, if_pos rfl]; omega
    · rw [decide_eq_false hc, if_neg (by decide)]; omega
  rw [hg]
  simp only [List.append_assoc]
  rw [← f2]
  have d2 : s3L l e = wordB (upN 32 (s3L l e) (s3E l e)) ++ s4L l e := d2
  rw [← d2]
  have c2 : r2L l e = wordB (upN 1 (r2L l e) (r2E l e)) ++ s3L l e := c2
  rw [← c2]
  have b2 : r1L l e = wordB (upN 2147483647 (r1L l e) (r1E l e)) ++ r2L l e := b2
  rw [← b2]
  exact a2
theorem hd_print (a b c d f : Int) (y : List Int) (ha : 0 ≤ a ∧ a ≤ 2048) (hb : 0 ≤ b ∧ b ≤ 2048) (hc : 0 ≤ c ∧ c ≤ 1024) (hd : 0 ≤ d ∧ d ≤ 1024) (hf : 0 ≤ f ∧ f ≤ 256) :
    hdS (wordB a ++ (wordB b ++ (wordB c ++ (wordB d ++ (wordB f ++ y))))) .fine 5 = (y, .fine, [a, b, c, d, f]) := by
  obtain ⟨a1, a2, a3⟩ := up_print (top := 2048) (x := .bare 104) (wordB b ++ (wordB c ++ (wordB d ++ (wordB f ++ y)))) (w := a) (by omega) ha.2
  obtain ⟨b1, b2, b3⟩ := up_print (top := 2048) (x := .bare 104) (wordB c ++ (wordB d ++ (wordB f ++ y))) (w := b) (by omega) hb.2
  obtain ⟨c1, c2, c3⟩ := up_print (top := 1024) (x := .bare 104) (wordB d ++ (wordB f ++ y)) (w := c) (by omega) hc.2
  obtain ⟨d1, d2, d3⟩ := up_print (top := 1024) (x := .bare 104) (wordB f ++ y) (w := d) (by omega) hd.2
  obtain ⟨f1, f2, f3⟩ := up_print (top := 256) (x := .bare 104) y (w := f) (by omega) hf.2
  have t0 : tops.getD 0 0 = 2048 := rfl
  have t1 : tops.getD 1 0 = 2048 := rfl
  have t2 : tops.getD 2 0 = 1024 := rfl
  have t3 : tops.getD 3 0 = 1024 := rfl
  have t4 : tops.getD 4 0 = 256 := rfl
  rw [hdS_succ, hdS_succ, hdS_succ, hdS_succ, hdS_succ, hdS_zero, t0, t1, t2, t3, t4]
  simp only [a1, a2, a3, b1, b2, b3, c1, c2, c3, d1, d2, d3, f1, f2, f3]
  rfl
theorem e104 : (FErr.bare 104).isErr = true := rfl
theorem hd_back {l : List Int} {e : FErr} (hb : byt l) : ∀ n, (hdS l e n).2.1.isErr = false → e = .fine ∧ l = (hdS l e n).2.2.flatMap wordB ++ (hdS l e n).1
  | 0 => by
    rw [hdS_zero]; intro h; exact ⟨isE h, rfl⟩
  | n + 1 => by
    rw [hdS_succ]
    intro h
    have h : (upE (tops.getD n 0) (.bare 104) (hdS l e n).1 (hdS l e n).2.1).isErr = false := h
    have hn := up_fine h
    obtain ⟨i1, i2⟩ := hd_back hb n hn
    have hb2 : byt (hdS l e n).1 := by rw [i2] at hb; exact (byt_app hb).2
    obtain ⟨j1, j2⟩ := up_back hb2 e104 h
    refine ⟨i1, ?_⟩
    show l = ((hdS l e n).2.2 ++ [_]).flatMap wordB ++ _
    rw [List.flatMap_append, List.append_assoc]
    simp only [List.flatMap_cons, List.flatMap_nil, List.append_nil]
    rw [← j2, ← i2]
end Go.Proofs.YtceebkojjmmjmaaDoor

