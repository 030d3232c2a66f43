/- Contracts that the proofs use. -/
import Derived.Test.YtceebkojjmmjmaaDoorQReadR
set_option linter.unusedVariables false
set_option linter.unusedSimpArgs false
namespace Go.Proofs.YtceebkojjmmjmaaDoor
open Go.RowKit Go.Sy Go.Fac
section
variable {d c m : List Int} {dr cr : List Rel} {sy : List Sm}
theorem read_ok (hv : (validE d c m dr cr sy).isErr = false) (hd : wrd d) (hc : wrd c) : (readE (bytesO d c m dr cr sy)).isErr = false ∧ rdD (bytesO d c m dr cr sy) = d ∧ rdC (bytesO d c m dr cr sy) = c ∧ rdM (bytesO d c m dr cr sy) = m ∧ rdDr (bytesO d c m dr cr sy) = dr ∧ rdCr (bytesO d c m dr cr sy) = cr ∧ rdS (bytesO d c m dr cr sy) = sy := by
  obtain ⟨p1, p2, p3, p4, p5, p6, p7, p8, p9, p10⟩ := read_print hv hd hc []
  rw [List.append_nil] at p1 p2 p3 p4 p5 p6 p7 p8 p9 p10
  have f1 : f1E (bytesO d c m dr cr sy) = .fine := by rw [f1E_is, p10, if_neg (by decide), p9, if_neg (by decide)]
  have f2 : (f2E (bytesO d c m dr cr sy)).isErr = false := by rw [f2E_is, f1, if_neg (by decide), p3, p4, p5, p6, p7, p8]; exact hv
  have hr : (readE (bytesO d c m dr cr sy)).isErr = false := by rw [readE_is, if_neg (by omega), if_neg (by rw [p2]; decide)]; exact f2
  obtain ⟨w1, w2, w3, w4, w5, w6⟩ := rd_all hr
  exact ⟨hr, w1.trans p3, w2.trans p4, w3.trans p5, w4.trans p6, w5.trans p7, w6.trans p8⟩
theorem read_more (hv : (validE d c m dr cr sy).isErr = false) (hd : wrd d) (hc : wrd c) {y : List Int} (hy : 0 < y.length) : readE (bytesO d c m dr cr sy ++ y) = .bare 102 := by
  obtain ⟨p1, p2, p3, p4, p5, p6, p7, p8, p9, p10⟩ := read_print hv hd hc y
  have f1 : f1E (bytesO d c m dr cr sy ++ y) = .bare 102 := by rw [f1E_is, p10, if_neg (by decide), p9, if_pos hy]
  have f2 : f2E (bytesO d c m dr cr sy ++ y) = .bare 102 := by rw [f2E_is, f1, if_pos (by rfl)]
  rw [readE_is, if_neg (by omega), if_neg (by rw [p2]; decide)]; exact f2
end
theorem ws_wrd (l : List Int) (e : FErr) : ∀ i, wrd (wsS l e i).2.2
  | 0 => by rw [show wsS l e 0 = _ from itS_zero]; intro x hx; cases hx
  | i + 1 => by
    rw [show wsS l e (i + 1) = _ from itS_succ i]
    split
    · exact ws_wrd l e i
    · intro x hx
      rcases List.mem_append.1 hx with hx | hx
      · exact ws_wrd l e i x hx
      · rw [List.mem_singleton.1 hx]; exact w4W_in _ _
theorem wsX_wrd (l : List Int) (e : FErr) (n : Nat) : wrd (wsX l e n) := by
  rw [wsX_is]; split
  · exact ws_wrd l e n
  · intro x hx; cases hx
theorem dX_wrd (b : List Int) : wrd (dX b) ∧ wrd (cX b) := by
  have e1 : dX b = wsX (a0L b) (a0E b) (nN b 0).toNat := hide_eq _
  have e2 : cX b = wsX (a1L b) (a1E b) (nN b 1).toNat := hide_eq _
  rw [e1, e2]; exact ⟨wsX_wrd _ _ _, wsX_wrd _ _ _⟩
theorem wordB_byt {w : Int} (h : 0 ≤ w ∧ w < 4294967296) : byt (wordB w) := by
  rw [wordB_is]; intro x hx
  simp only [List.mem_cons, List.not_mem_nil, or_false] at hx
  rcases hx with rfl | rfl | rfl | rfl <;> omega
theorem byt_cat {l k : List Int} (h : byt l) (h' : byt k) : byt (l ++ k) := fun x hx => (List.mem_append.1 hx).elim (h x) (h' x)
theorem byt_flat {α : Type} {f : α → List Int} {l : List α} (h : ∀ a ∈ l, byt (f a)) : byt (l.flatMap f) := fun x hx => by
  obtain ⟨a, ha, hx⟩ := List.mem_flatMap.1 hx
  exact h a ha x hx
theorem wordsB_byt {l : List Int} (h : wrd l) : byt (wordsB l) := byt_flat fun a ha => wordB_byt (h a ha)
theorem wrap_in (x : Int) : 0 ≤ IntKind.u32.wrap x ∧ IntKind.u32.wrap x < 4294967296 := by rw [IntKind.wrap_u32]; omega
theorem relB_byt (r : Rel) : byt (relB r) := wordsB_byt fun x hx => by
  simp only [List.mem_cons, List.not_mem_nil, or_false] at hx
  rcases hx with rfl | rfl | rfl | rfl <;> exact wrap_in _
theorem symB_byt (s : Sm) : byt (symB s) := by
  refine byt_cat (wordsB_byt fun x hx => ?_) (bytesL_byt _)
  simp only [List.mem_cons, List.not_mem_nil, or_false] at hx
  rcases hx with rfl | rfl | rfl | rfl
  · exact wrap_in _
  · exact wrap_in _
  · split <;> decide
  · exact wrap_in _
section
variable {d c m : List Int} {dr cr : List Rel} {sy : List Sm}
theorem bytesO_byt (hd : wrd d) (hc : wrd c) (hm : byt m) : byt (bytesO d c m dr cr sy) := by
  unfold bytesO bodyB headB
  refine byt_cat (byt_cat (byt_cat (byt_cat (byt_cat (byt_cat (byt_cat (wordsB_byt ?_) (wordsB_byt ?_)) (wordsB_byt hd)) (wordsB_byt hc)) hm) (byt_flat fun a _ => relB_byt a)) (byt_flat fun a _ => relB_byt a)) (byt_flat fun a _ => symB_byt a)
  · intro x hx; rw [List.mem_singleton.1 hx]; decide
  · intro x hx
    obtain ⟨a, _, rfl⟩ := List.mem_map.1 hx
    exact wrap_in _
theorem bytesO_len (hv : (validE d c m dr cr sy).isErr = false) : 24 ≤ (bytesO d c m dr cr sy).length ∧ (bytesO d c m dr cr sy).length ≤ 200000 := by
  have hs := valid_ser hv
  have h1 := preI_len hs 2
  have h2 := symsB_len sy hs.2.2.2.2.2.2
  have h3 : bytesO d c m dr cr sy = preI d c m dr cr sy 2 ++ symsB sy := rfl
  have h4 := hs.2.2.2.2.2.1
  have h5 := bodyB_len d c m dr cr sy
  rw [h3, List.length_append]
  refine ⟨?_, by omega⟩
  show 24 ≤ (bodyB d c m dr cr sy ++ relsB dr ++ relsB cr).length + _
  rw [List.length_append, List.length_append]; omega
theorem read_cut (hv : (validE d c m dr cr sy).isErr = false) (hd : wrd d) (hc : wrd c) (hm : byt m) {k : Nat} (hk : k < (bytesO d c m dr cr sy).length) : (readE ((bytesO d c m dr cr sy).take k)).isErr = true := by
  have hok := (read_ok hv hd hc).1
  have hb := bytesO_byt (dr := dr) (cr := cr) (sy := sy) hd hc hm
  generalize bytesO d c m dr cr sy = x at *
  cases hc : (readE (x.take k)).isErr with
  | true => rfl
  | false =>
    have hb2 : byt (x.take k) := fun y hy => hb y (List.mem_of_mem_take hy)
    obtain ⟨h1, h2⟩ := read_back hb2 hc
    have h3 := read_more h2 (dX_wrd _).1 (dX_wrd _).2 (y := x.drop k) (by rw [List.length_drop]; omega)
    rw [← h1, List.take_append_drop] at h3
    rw [h3] at hok; cases hok
theorem bytesM_is (hv : (validE d c m dr cr sy).isErr = false) : bytesM d c m dr cr sy = bytesO d c m dr cr sy := by unfold bytesM; rw [hv]; rfl
theorem lenOb_of (hv : (validE d c m dr cr sy).isErr = false) : lenOb d c m dr cr sy := by
  obtain ⟨v1, v2, v3, v4, v5, v6, v7, v8, v9⟩ := valid_size hv
  unfold lenOb; omega
end
theorem read_bytes {b : List Int} (hb : byt b) (h : (readE b).isErr = false) : (validE (rdD b) (rdC b) (rdM b) (rdDr b) (rdCr b) (rdS b)).isErr = false ∧ bytesM (rdD b) (rdC b) (rdM b) (rdDr b) (rdCr b) (rdS b) = b := by
  obtain ⟨w1, w2, w3, w4, w5, w6⟩ := rd_all h
  obtain ⟨h1, h2⟩ := read_back hb h
  rw [w1, w2, w3, w4, w5, w6]
  exact ⟨h2, by rw [bytesM_is h2]; exact h1.symm⟩
end Go.Proofs.YtceebkojjmmjmaaDoor

