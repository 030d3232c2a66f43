/- Words that the proofs use, part 9. -/
import Derived.Test.YtacmmedhjebfjaaGreatDoorQE8
import Derived.Lib.AppendStr
set_option linter.unusedVariables false
set_option linter.unusedSimpArgs false
namespace Go.Sy
open Go.RowKit
section
variable {C : Ctx} {gl : List (Nat × SVal)} {W : World} {R : Nat → Prop} {ρ : Nat → Option Value} {h : Nat → Option Cont} {P : Program}
structure Grew (W W' : World) (v v' : Value) : Prop where
 os : W'.os = W.os
 tape : W'.tape = W.tape
 output : W'.output = W.output
 size : W.heap.size ≤ W'.heap.size
 keep : ∀ k, k < W.heap.size → blk v ≠ some k → W'.heap[k]? = W.heap[k]?
 at_ : ∀ b, blk v' = some b → blk v = some b ∨ W.heap.size ≤ b
theorem append_zero {t ty e : Nat} (ht : P.underlying t = some (.slice e)) {i : TypeInfo} (hi : P.info? e = some i) {A B : Option Addr} {n cap c : Nat} (hn : n ≤ cap) :
  (Builtin.append_ #[t, t] ty #[.slice A n cap, .slice B 0 c]).run P W = .ok (.slice A n cap) W := by
 cases A <;> cases B <;> simp [Builtin.append_, run_und ht, run_siz hi, Builtin.lenOf, hn, Builtin.firstCells, loadCells, loadCellsFrom, storeCells]
theorem append_room {t ty e e0 : Nat} (ht : P.underlying t = some (.slice e)) {i : TypeInfo} (hi : P.info? e = some i) {g sLen sCap : Nat} {cur : Array Value} (hg : W.heap[g]? = some (.cells cur e0 (0, 0)))
  {a : Addr} {m c : Nat} {news : List Value} (hl : news.length = m * i.size) (hnews : ∀ j u, news[j]? = some u → W.cell? (a.add j) = some u) (h1 : ∀ u ∈ news, u.oneCell' = true)
  (hroom : sLen + m ≤ sCap) (hfit : sLen * i.size + news.length ≤ cur.size) :
  (Builtin.append_ #[t, t] ty #[.slice (some ⟨g, 0, none⟩) sLen sCap, .slice (some a) m c]).run P W =
   .ok (.slice (some ⟨g, 0, none⟩) (sLen + m) sCap) (W.setRow g (cur.toList.take (sLen * i.size) ++ news ++ cur.toList.drop (sLen * i.size + news.length)).toArray) := by
 have hf := run_firstCells_some (P := P) W i.size m a m c news hl hnews
 have hst := run_storeCells_at P g (sLen * i.size) e0 news 0 cur W hg (by simpa using hfit) h1
 simp only [Nat.add_zero] at hst
 simp [Builtin.append_, run_und ht, sizeOf, typeInfo, hi, Builtin.lenOf, hroom, hf, addA, hst]
theorem own_app {t ty e : Nat} (ht : P.underlying t = some (.slice e)) {i : TypeInfo} (hi : P.info? e = some i) {z : Value} (hz : i.zero = some z) {w : Nat} (hs : i.size = w) (hzs : z.cells.size = w) (hby : i.bytes ≤ 1024) (hw : 0 < w)
  {v : Value} {n : Nat} {xs : List Value} {e0 : Nat} (ho : W.ownsRow 0 e0 w v n xs) {A : Option Addr} {m c : Nat} {news : List Value} (hl : news.length = m * w) (hc : 0 < m → ∃ a, A = some a ∧ ∀ j u, news[j]? = some u → W.cell? (a.add j) = some u)
  (h1 : ∀ u ∈ news, u.oneCell' = true) (hb : n + m ≤ 137438953472) :
  ∃ v' W' e', (Builtin.append_ #[t, t] ty #[v, .slice A m c]).run P W = .ok v' W' ∧ W'.ownsRow 0 e' w v' (n + m) (xs ++ news) ∧ Grew W W' v v' ∧ ∃ A n' cap, v' = .slice A n' cap := by
 subst hs
 have hbytes : (n + m) * i.bytes ≤ 140737488355328 := Nat.le_trans (Nat.mul_le_mul hb hby) (by decide)
 have hsmall : n + m ≤ 9223372036854775807 := by omega
 have hml : n + m ≤ maxLen := by unfold maxLen; omega
 have hlen : (xs ++ news).length = (n + m) * i.size := by rw [List.length_append, ho.1, hl, Nat.add_mul]
 have same : n + m = n → xs ++ news = xs := fun hm => by
  have : news = [] := List.eq_nil_of_length_eq_zero (by rw [hl]; have : m = 0 := by omega
                                                        rw [this]; simp)
  rw [this, List.append_nil]
 have refl : Grew W W v v := ⟨rfl, rfl, rfl, Nat.le_refl _, fun _ _ _ => rfl, fun b hb => .inl hb⟩
 have grown : ∀ (old : Nat), old < n + m →
   (W.drew.alloc (.cells (xs.toArray ++ news.toArray ++ Builtin.zeroCells z.cells (grownCap W (n + m) old e - (n + m))) e)).ownsRow 0 e i.size
    (.slice (some ⟨W.heap.size, 0, none⟩) (n + m) (grownCap W (n + m) old e)) (n + m) (xs ++ news) ∧
   Grew W (W.drew.alloc (.cells (xs.toArray ++ news.toArray ++ Builtin.zeroCells z.cells (grownCap W (n + m) old e - (n + m))) e)) v (.slice (some ⟨W.heap.size, 0, none⟩) (n + m) (grownCap W (n + m) old e)) := by
  intro old ho'
  have hge := grownCap_ge W (n + m) old e
  have hcm : grownCap W (n + m) old e ≤ maxLen := grownCap_le_maxLen W (n + m) old e hml
  refine ⟨⟨hlen, .inr ⟨W.heap.size, _, _, rfl, Nat.zero_le _, Go.heap_alloc_new W.drew _, hge, hcm, ?_, ?_⟩⟩, ⟨rfl, rfl, rfl, by simp, fun k hk _ => Below.heap_alloc W.drew _ k hk, fun b hb => .inr (by simp [blk] at hb; omega)⟩⟩
  ·simp only [Array.size_append, List.size_toArray, size_zeroCells, hzs, ho.1, hl, ← Nat.add_mul]
   congr 1
   omega
  ·simp only [Array.toList_append, List.append_assoc]
   rw [← List.append_assoc, ← hlen]
   exact List.take_left
 rcases ho.2 with ⟨rfl, rfl⟩ | ⟨g, cap, cur, rfl, hbg, hg, hnc, hcm, hcs, htake⟩
 ·have hx : xs = [] := List.eq_nil_of_length_eq_zero (by simpa using ho.1)
  subst hx
  by_cases hm : m = 0
  ·subst hm
   refine ⟨.slice none 0 0, W, e0, append_zero ht hi (Nat.le_refl _), ?_, refl, _, _, _, rfl⟩
   rw [same (by omega)]; exact ho
  ·obtain ⟨a, rfl, hnews⟩ := hc (by omega)
   have hr := run_append_nil (P := P) W t ty e i z ht hi hz a m c news hl hnews (by omega) (by omega) (by have hb := hbytes; simp only [Nat.zero_add] at hb; omega)
   have hgr := grown 0 (by omega)
   simp only [Nat.zero_add, List.nil_append, Array.empty_append] at hgr ⊢
   exact ⟨_, _, _, hr, hgr.1, hgr.2, _, _, _, rfl⟩
 ·by_cases hm : m = 0
  ·subst hm
   refine ⟨_, W, e0, append_zero ht hi hnc, ?_, refl, _, _, _, rfl⟩
   rw [same (by omega)]; exact ho
  ·obtain ⟨a, rfl, hnews⟩ := hc (by omega)
   by_cases hroom : n + m ≤ cap
   ·have hfit : n * i.size + news.length ≤ cur.size := by rw [hl, hcs, ← Nat.add_mul]; exact Nat.mul_le_mul_right _ hroom
    have hr := append_room (P := P) (ty := ty) (c := c) ht hi hg hl hnews h1 hroom hfit
    refine ⟨_, _, e0, hr, ⟨hlen, .inr ⟨g, cap, _, rfl, hbg, setRow_heap W g cur _ e0 _ hg, hroom, hcm, ?_, ?_⟩⟩, ⟨rfl, rfl, rfl, by simp, fun k _ hk => setRow_other W g k _ (fun e => hk (by simp [blk, e])), fun b hb => .inl hb⟩, _, _, _, rfl⟩
    ·simp only [List.size_toArray, List.length_append, List.length_take, List.length_drop, Array.length_toList]
     omega
    ·rw [htake, ← hlen]
     exact List.take_left
   ·have holds : ∀ j u, xs[j]? = some u → W.cell? ((⟨g, 0, none⟩ : Addr).add j) = some u := ho.cells (g := g) rfl
    have hr := run_append_grow (P := P) W t ty e i z ht hi hz ⟨g, 0, none⟩ n cap xs ho.1 holds a m c news hl hnews (by omega) (by omega) (growslice_fits (by omega) hbytes)
    have hgr := grown cap (by omega)
    exact ⟨_, _, _, hr, hgr.1, hgr.2, _, _, _, rfl⟩
theorem Trans.app (M : Mem C gl W R ρ h) {r n : Nat} {c0 c : Cont} {v v' : Value} {W' : World} (hr : h r = some c0) (hv : ρ r = some v) (hn : ρ n = none) (G : Grew W W' v v')
  (hc : (∀ b, R b → W'.heap[b]? = W.heap[b]?) → HoldC C W' R (bindN ρ n v') v' c) : Trans C gl W R ρ h [(r, none), (n, some c)] W' R (bindN ρ n v') := by
 have hne : r ≠ n := fun e => by subst e; rw [hv] at hn; cases hn
 have fn : ∀ {q c'}, find q [(r, (none : Option Cont)), (n, some c)] = some (some c') → q = n ∧ c' = c := fun {q c'} hf => by
  simp only [find] at hf
  split at hf
  ·cases hf
  ·split at hf
   ·rename_i e; exact ⟨(beq_ok e).symm, by cases hf; rfl⟩
   ·cases hf
 refine Trans.gen M G.os G.tape G.output G.size (bindN_mono hn) (bindN_new (c := none) hn (by simp [keys])) (fun k hk hx => G.keep k hk (hx r c0 v (by simp [keys]) hr hv)) (fun kR q c' hf => ?_) (fun q q' c1 c2 h1 h2 => ?_)
 ·obtain ⟨rfl, rfl⟩ := fn hf
  refine ⟨v', bindN_at, hc kR, fun b hb => ?_⟩
  rcases G.at_ b hb with h | h
  ·exact .inl ⟨r, c0, v, by simp [keys], hr, hv, h⟩
  ·exact .inr h
 ·rw [(fn h1).1, (fn h2).1]
theorem Trans.app0 (M : Mem C gl W R ρ h) {n : Nat} {c : Cont} {v' : Value} {W' : World} (hn : ρ n = none) (G : Grew W W' (.slice none 0 0) v')
  (hc : (∀ b, R b → W'.heap[b]? = W.heap[b]?) → HoldC C W' R (bindN ρ n v') v' c) : Trans C gl W R ρ h [(n, some c)] W' R (bindN ρ n v') := by
 refine Trans.gen M G.os G.tape G.output G.size (bindN_mono hn) (bindN_new (c := none) hn (by simp [keys])) (fun k hk hx => G.keep k hk (by simp [blk])) (fun kR q c' hf => ?_) (fun q q' c1 c2 h1 h2 => ?_)
 ·obtain ⟨rfl, e⟩ := find_one hf
  cases e
  refine ⟨v', bindN_at, hc kR, fun b hb => ?_⟩
  rcases G.at_ b hb with h | h
  ·simp [blk] at h
  ·exact .inr h
 ·rw [(find_one h1).1, (find_one h2).1]
def MakeOk (C : Ctx) (gl : List (Nat × SVal)) (W : World) (R : Nat → Prop) (ρ : Nat → Option Value) (h : Nat → Option Cont) (P : Program) (s : Sem Value) (r : ORes) : Prop :=
 ∃ v W' ρ', s.run P W = .ok v W' ∧ Trans C gl W R ρ h r.ws W' R ρ' ∧ Den C W' R ρ' r.v v
theorem append_ok (M : Mem C gl W R ρ h) {E : Env} (tabOk : ∀ t ti, find t E.tab = some ti → TiOk P t ti) {t t' ty next : Nat} {s x : SVal} {vs vx : Value} (hs : Den C W R ρ s vs) (hx : Den C W R ρ x vx) (hn : ρ next = none) {r : ORes} {l l' : List Nat}
  (hr : (appendS E t t' s x next).run h l = .ok (r, l')) (hp : ∀ q, r.vc = some q → q) : MakeOk C gl W R ρ h P (Builtin.append_ #[t, t'] ty #[vs, vx]) r := by
 unfold appendS at hr
 obtain ⟨ti, l1, h1, hr1⟩ := Acc.bind_ok hr
 clear hr
 obtain ⟨ht, _⟩ := ofOpt_ok h1
 split at hr1
 case h_2 => cases hr1
 rename_i e htd htt
 have := beq_ok htt; subst this
 obtain ⟨ei, l2, h2, hr2⟩ := Acc.bind_ok hr1
 clear hr1
 obtain ⟨he, _⟩ := ofOpt_ok h2
 obtain ⟨⟨d, d1, d2⟩, _, _⟩ := tabOk _ _ ht
 rw [htd] at d2
 have d2 : d = .slice e := d2
 subst d2
 obtain ⟨_, ⟨i, z, i1, i2, i3, i4, i5, i6, i7⟩, _⟩ := tabOk _ _ he
 split at hr2
 case h_2 => cases hr2
 rename_i u hu
 obtain ⟨j1, j2, j3, _⟩ := i7 u hu
 obtain ⟨⟨u', new⟩, l3, h3, hr⟩ := Acc.bind_ok hr2
 clear hr2
 obtain ⟨A, cap, news, rfl, n1, n2, n3⟩ := elems_ok M hx h3
 simp only at hr
 split at hr
 ·rename_i hu' _
  subst hu'
  split at hr
  ·simp [Acc.run] at hr
   obtain ⟨rfl, _⟩ := hr
   cases hs
   have hb := hp _ rfl
   obtain ⟨v', W', e', a1, a2, a3, A', n', c', rfl⟩ := own_app (ty := ty) d1 i1 i4 (i2.trans j1) (i5.trans j1) (by omega) j2 (World.ownsRow_nil W 0 e u'.w) (A := A) (c := cap) n2 n3 n1.ones (by simpa using hb)
   refine ⟨_, W', _, a1, Trans.app0 M hn a3 fun kR => ⟨e', _, ?_, n1.mono (fun _ h => h) kR (bindN_mono hn)⟩, .own _ _ _ _ bindN_at⟩
   simpa using a2
  ·rename_i q
   simp only [Acc.run] at hr
   split at hr
   ·rename_i u'' l0 hc
    split at hr
    ·rename_i hq _
     subst hq
     simp [Acc.run] at hr
     obtain ⟨rfl, _⟩ := hr
     have hb := hp _ rfl
     cases hs with
     | own _ A0 n0 c0 hq =>
      obtain ⟨v0, hv0, e0, vs0, ho, hl⟩ := M.at_ _ _ hc
      rw [hq] at hv0; cases hv0
      obtain ⟨v', W', e', a1, a2, a3, A', n', c', rfl⟩ := own_app (ty := ty) d1 i1 i4 (i2.trans j1) (i5.trans j1) (by omega) j2 ho (A := A) (c := cap) n2 n3 n1.ones hb
      refine ⟨_, W', _, a1, Trans.app M hc hq hn a3 fun kR => ⟨e', vs0 ++ news, ?_, ?_⟩, .own _ _ _ _ bindN_at⟩
      ·rw [List.length_append]; exact a2
      ·rw [List.flatMap_append]
       exact (hl.mono (fun _ h => h) kR (bindN_mono hn)).app (n1.mono (fun _ h => h) kR (bindN_mono hn))
    ·cases hr
   ·cases hr
  ·cases hr
 ·cases hr
theorem append_room_str {t u ty e e0 : Nat} (ht : P.underlying t = some (.slice e)) (hu : P.underlying u = some .string) {i : TypeInfo} (hi : P.info? e = some i) (hs1 : i.size = 1) {g sLen sCap : Nat} {cur : Array Value} (hg : W.heap[g]? = some (.cells cur e0 (0, 0))) (s : ByteArray)
  (hroom : sLen + s.size ≤ sCap) (hfit : sLen + s.size ≤ cur.size) :
  (Builtin.append_ #[t, u] ty #[.slice (some ⟨g, 0, none⟩) sLen sCap, .string s]).run P W =
   .ok (.slice (some ⟨g, 0, none⟩) (sLen + s.size) sCap) (W.setRow g (cur.toList.take sLen ++ Lib.strCells s ++ cur.toList.drop (sLen + s.size)).toArray) := by
 have hf := Lib.run_firstCells_string (P := P) W 1 s
 have hst := run_storeCells_at P g sLen e0 (Lib.strCells s) 0 cur W hg (by simpa [Lib.strCells_length] using hfit) (Lib.strCells_oneCell s)
 simp only [Nat.add_zero, Lib.strCells_length] at hst
 simp [Builtin.append_, run_und ht, run_und hu, sizeOf, typeInfo, hi, hs1, Builtin.lenOf, hroom, hf, Addr.add_lit, hst]
theorem own_app_str {t u ty e : Nat} (ht : P.underlying t = some (.slice e)) (hu : P.underlying u = some .string) {i : TypeInfo} (hi : P.info? e = some i) {z : Value} (hz : i.zero = some z) (hs : i.size = 1) (hzs : z.cells.size = 1) (hby : i.bytes ≤ 1024)
  {v : Value} {n : Nat} {xs : List Value} {e0 : Nat} (ho : W.ownsRow 0 e0 1 v n xs) (s : ByteArray) (hb : n + s.size ≤ 137438953472) :
  ∃ v' W' e', (Builtin.append_ #[t, u] ty #[v, .string s]).run P W = .ok v' W' ∧ W'.ownsRow 0 e' 1 v' (n + s.size) (xs ++ Lib.strCells s) ∧ Grew W W' v v' ∧ ∃ A n' cap, v' = .slice A n' cap := by
 have hbytes : (n + s.size) * i.bytes ≤ 140737488355328 := Nat.le_trans (Nat.mul_le_mul hb hby) (by decide)
 have hml : n + s.size ≤ maxLen := by unfold maxLen; omega
 have hxl : xs.length = n := by simpa using ho.1
 have hlen : (xs ++ Lib.strCells s).length = (n + s.size) * 1 := by rw [List.length_append, hxl, Lib.strCells_length, Nat.mul_one]
 have grown : ∀ (old : Nat), old < n + s.size →
   (W.drew.alloc (.cells (xs.toArray ++ (Lib.strCells s).toArray ++ Builtin.zeroCells z.cells (grownCap W (n + s.size) old e - (n + s.size))) e)).ownsRow 0 e 1
    (.slice (some ⟨W.heap.size, 0, none⟩) (n + s.size) (grownCap W (n + s.size) old e)) (n + s.size) (xs ++ Lib.strCells s) ∧
   Grew W (W.drew.alloc (.cells (xs.toArray ++ (Lib.strCells s).toArray ++ Builtin.zeroCells z.cells (grownCap W (n + s.size) old e - (n + s.size))) e)) v (.slice (some ⟨W.heap.size, 0, none⟩) (n + s.size) (grownCap W (n + s.size) old e)) := by
  intro old ho'
  have hge := grownCap_ge W (n + s.size) old e
  have hcm : grownCap W (n + s.size) old e ≤ maxLen := grownCap_le_maxLen W (n + s.size) old e hml
  refine ⟨⟨hlen, .inr ⟨W.heap.size, _, _, rfl, Nat.zero_le _, Go.heap_alloc_new W.drew _, hge, hcm, ?_, ?_⟩⟩, ⟨rfl, rfl, rfl, by simp, fun k hk _ => Below.heap_alloc W.drew _ k hk, fun b hb => .inr (by simp [blk] at hb; omega)⟩⟩
  ·simp only [Array.size_append, List.size_toArray, size_zeroCells, hzs, hxl, Lib.strCells_length]
   omega
  ·simp only [Array.toList_append, List.append_assoc]
   rw [← List.append_assoc, ← hlen]
   exact List.take_left
 rcases ho.2 with ⟨rfl, rfl⟩ | ⟨g, cap, cur, rfl, hbg, hg, hnc, hcm, hcs, htake⟩
 ·have hx : xs = [] := List.eq_nil_of_length_eq_zero (by simpa using ho.1)
  subst hx
  by_cases hm : s.size = 0
  ·have hn : Lib.strCells s = [] := List.eq_nil_of_length_eq_zero (by rw [Lib.strCells_length]; exact hm)
   have hf := Lib.run_firstCells_string (P := P) W i.size s
   rw [hm] at hf
   refine ⟨.slice none 0 0, W, e0, ?_, by rw [hm, hn]; exact World.ownsRow_nil W 0 e0 1, ⟨rfl, rfl, rfl, Nat.le_refl _, fun _ _ _ => rfl, fun b hb => .inl hb⟩, _, _, _, rfl⟩
   simp [Builtin.append_, run_und ht, run_und hu, sizeOf, typeInfo, hi, Builtin.lenOf, hm, hf]
  ·have hr := run_append_nil_string (P := P) W t u ty e i z ht hu hi hz s (by omega) (by omega) (by have := hbytes; simp only [Nat.zero_add] at this; omega)
   have hgr := grown 0 (by omega)
   simp only [Nat.zero_add, List.nil_append, Array.empty_append] at hgr ⊢
   have e1 : (s.data.map fun b => Value.int .u8 b.toNat) = (Lib.strCells s).toArray := by
    apply Array.ext'
    simp [Lib.strCells]
   rw [e1] at hr
   exact ⟨_, _, _, hr, hgr.1, hgr.2, _, _, _, rfl⟩
 ·by_cases hroom : n + s.size ≤ cap
  ·have hcs' : cur.size = cap := by simpa using hcs
   have hr := append_room_str (P := P) (ty := ty) ht hu hi hs hg s hroom (by omega)
   refine ⟨_, _, e0, hr, ⟨hlen, .inr ⟨g, cap, _, rfl, hbg, setRow_heap W g cur _ e0 _ hg, hroom, hcm, ?_, ?_⟩⟩, ⟨rfl, rfl, rfl, by simp, fun k _ hk => setRow_other W g k _ (fun e => hk (by simp [blk, e])), fun b hb => .inl hb⟩, _, _, _, rfl⟩
   ·simp only [List.size_toArray, List.length_append, List.length_take, List.length_drop, Array.length_toList, Lib.strCells_length]
    omega
   ·have ht' : cur.toList.take n = xs := by simpa using htake
    rw [ht', ← hlen]
    exact List.take_left
  ·have holds : ∀ j u, xs[j]? = some u → W.cell? ((⟨g, 0, none⟩ : Addr).add j) = some u := ho.cells (g := g) rfl
   have hr := Lib.run_append_grow_string (P := P) W t u ty e i z ht hu hi hz ⟨g, 0, none⟩ n cap xs (by rw [hs]; simpa using hxl) holds s (by omega) (by omega) (growslice_fits (by omega) hbytes)
   have hgr := grown cap (by omega)
   exact ⟨_, _, _, hr, hgr.1, hgr.2, _, _, _, rfl⟩
theorem str_den (b : ByteArray) : DenL C W R ρ ((bytesL b).flatMap RT.u8.enc) (Lib.strCells b) := by
 unfold bytesL Lib.strCells
 induction b.data.toList with
 | nil => exact .nil
 | cons x l ih =>
  refine .one _ _ _ _ rfl rfl (.int .u8 (.full _) ⟨?_, ?_, ?_, ?_⟩) ih
  all_goals (have := x.toNat_lt; simp [SI.val, SI.lo, SI.hi, kmin, kmax]; try omega)
theorem appendStr_ok (M : Mem C gl W R ρ h) {E : Env} (tabOk : ∀ t ti, find t E.tab = some ti → TiOk P t ti) {t t' ty next : Nat} {s : SVal} {b : ByteArray} {vs : Value} (hs : Den C W R ρ s vs) (hn : ρ next = none) {r : ORes} {l l' : List Nat}
  (hr : (appendStr E t t' s b next).run h l = .ok (r, l')) (hp : ∀ q, r.vc = some q → q) : MakeOk C gl W R ρ h P (Builtin.append_ #[t, t'] ty #[vs, .string b]) r := by
 unfold appendStr at hr
 obtain ⟨ti, l1, h1, hr1⟩ := Acc.bind_ok hr
 clear hr
 obtain ⟨ht, _⟩ := ofOpt_ok h1
 split at hr1
 case h_2 => cases hr1
 rename_i e htd htt
 have hu : P.underlying t' = some .string := by
  unfold isTxt at htt
  split at htt
  ·rename_i tj htj
   obtain ⟨⟨d, d1, d2⟩, _, _⟩ := tabOk _ _ htj
   split at htt
   ·rename_i hj
    rw [hj] at d2
    have d2 : d = .string := d2
    rw [d1, d2]
   ·cases htt
  ·cases htt
 obtain ⟨ei, l2, h2, hr2⟩ := Acc.bind_ok hr1
 clear hr1
 obtain ⟨he, _⟩ := ofOpt_ok h2
 obtain ⟨⟨d, d1, d2⟩, _, _⟩ := tabOk _ _ ht
 rw [htd] at d2
 have d2 : d = .slice e := d2
 subst d2
 obtain ⟨_, ⟨i, z, i1, i2, i3, i4, i5, i6, i7⟩, _⟩ := tabOk _ _ he
 split at hr2
 case h_2 => cases hr2
 rename_i hu8
 obtain ⟨j1, j2, j3, _⟩ := i7 _ hu8
 have j1 : ei.size = 1 := j1
 split at hr2
 ·simp [Acc.run] at hr2
  obtain ⟨rfl, _⟩ := hr2
  cases hs
  have hb := hp _ rfl
  obtain ⟨v', W', e', a1, a2, a3, A', n', c', rfl⟩ := own_app_str (ty := ty) d1 hu i1 i4 (i2.trans j1) (i5.trans j1) (by omega) (World.ownsRow_nil W 0 e 1) b (by simpa using hb)
  refine ⟨_, W', _, a1, Trans.app0 M hn a3 fun kR => ⟨e', _, ?_, str_den b⟩, .own _ _ _ _ bindN_at⟩
  have : (bytesL b).length = b.size := by simp [bytesL]
  rw [this]
  simp only [Nat.zero_add, List.nil_append] at a2
  exact a2
 ·rename_i q
  simp only [Acc.run] at hr2
  split at hr2
  ·rename_i l0 hc
   simp [Acc.run] at hr2
   obtain ⟨rfl, _⟩ := hr2
   have hb := hp _ rfl
   cases hs with
   | own _ A0 n0 c0 hq =>
    obtain ⟨v0, hv0, e0, vs0, ho, hl⟩ := M.at_ _ _ hc
    rw [hq] at hv0; cases hv0
    obtain ⟨v', W', e', a1, a2, a3, A', n', c', rfl⟩ := own_app_str (ty := ty) d1 hu i1 i4 (i2.trans j1) (i5.trans j1) (by omega) ho b hb
    refine ⟨_, W', _, a1, Trans.app M hc hq hn a3 fun kR => ⟨e', vs0 ++ Lib.strCells b, ?_, ?_⟩, .own _ _ _ _ bindN_at⟩
    ·have : (bytesL b).length = b.size := by simp [bytesL]
     rw [List.length_append, this]; exact a2
    ·rw [List.flatMap_append]
     exact (hl.mono (fun _ h => h) kR (bindN_mono hn)).app (str_den b)
  ·cases hr2
 ·cases hr2
end
end Go.Sy
