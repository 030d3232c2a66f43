/- Maps. -/
import Derived.Test.YtbdfibaljoedpaaDoorSyMops7
set_option linter.unusedVariables false
set_option linter.unusedSimpArgs false
namespace Go.Sy
open Go.RowKit

section
variable {C : Ctx} {gl : List (Nat × SVal)} {W : World} {R : Nat → Prop} {ρ : Nat → Option Value} {h : Nat → Option Cont} {P : Program}

/-- The entries of a map are these. -/
def Ent {α : Type} (key : α → Value) (es : List MapEntry) (m : List (α × Int)) : Prop := es.map (fun e => (e.key, e.val)) = m.map (fun p => (key p.1, Value.int .i64 p.2))

theorem Ent.cons {α : Type} {key : α → Value} {e : MapEntry} {es : List MapEntry} {m : List (α × Int)} (h : Ent key (e :: es) m) : ∃ a b m', m = (a, b) :: m' ∧ e.key = key a ∧ e.val = .int .i64 b ∧ Ent key es m' := by
  cases m with
  | nil => simp [Ent] at h
  | cons p m' =>
    simp only [Ent, List.map_cons, List.cons.injEq, Prod.mk.injEq] at h
    exact ⟨p.1, p.2, m', rfl, h.1.1, h.1.2, h.2⟩
theorem Ent.nil {α : Type} {key : α → Value} {m : List (α × Int)} (h : Ent key [] m) : m = [] := by cases m <;> simp [Ent] at h ⊢

/-- A key's place. -/
def placeOf {α : Type} [DecidableEq α] : List (α × Int) → α → Nat → Option (Nat × Value)
  | [], _, _ => none
  | (a, b) :: m, k, i => if a = k then some (i, .int .i64 b) else placeOf m k (i + 1)

theorem find_now {α : Type} [DecidableEq α] {key : α → Value} {d : TypeDesc} {k : α} (hs : ∀ a, Instr.sameNow d (key k) (key a) = some (decide (a = k))) : ∀ {es : List MapEntry} {m : List (α × Int)} (i : Nat), Ent key es m →
    Instr.findNow d (key k) es i = some (placeOf m k i)
  | [], m, i, h => by rw [h.nil]; rfl
  | e :: es, m, i, h => by
    obtain ⟨a, b, m', rfl, h1, h2, h3⟩ := h.cons
    have ih := find_now hs (i + 1) h3
    simp only [Instr.findNow, h1, hs, placeOf]
    by_cases hk : a = k
    · simp [hk, h2]
    · simp [hk, ih]

theorem get_of {α : Type} [DecidableEq α] : ∀ (m : List (α × Int)) (k : α) (i : Nat), mapGet m k = (match placeOf m k i with | some (_, .int _ b) => b | _ => 0)
  | [], k, i => rfl
  | (a, b) :: m, k, i => by
    simp only [mapGet, placeOf]
    by_cases hk : a = k
    · simp [hk]
    · simp [hk, get_of m k (i + 1)]
theorem place_int {α : Type} [DecidableEq α] : ∀ (m : List (α × Int)) (k : α) (i : Nat) {j : Nat} {v : Value}, placeOf m k i = some (j, v) → ∃ b, v = .int .i64 b ∧ i ≤ j ∧ m[j - i]? = some (k, b) ∧ mapPut m k = fun x => m.set (j - i) (k, x)
  | [], k, i, j, v, h => by cases h
  | (a, b) :: m, k, i, j, v, h => by
    simp only [placeOf] at h
    by_cases hk : a = k
    · subst hk
      simp at h
      obtain ⟨rfl, rfl⟩ := h
      exact ⟨b, rfl, Nat.le_refl _, by simp, by funext x; simp [mapPut]⟩
    · simp only [hk, if_false] at h
      obtain ⟨b', h1, h2, h3, h4⟩ := place_int m k (i + 1) h
      have e : j - i = (j - (i + 1)) + 1 := by omega
      refine ⟨b', h1, by omega, by rw [e]; simpa using h3, ?_⟩
      funext x
      rw [e]
      simp only [mapPut, hk, if_false, List.set_cons_succ]
      rw [h4]
theorem place_none {α : Type} [DecidableEq α] : ∀ (m : List (α × Int)) (k : α) (i : Nat), placeOf m k i = none → mapPut m k = fun x => m ++ [(k, x)]
  | [], k, i, h => by funext x; rfl
  | (a, b) :: m, k, i, h => by
    simp only [placeOf] at h
    by_cases hk : a = k
    · simp [hk] at h
    · simp only [hk, if_false] at h
      funext x
      simp only [mapPut, hk, if_false, place_none m k (i + 1) h, List.cons_append]

theorem get_mem {α : Type} [DecidableEq α] {m : List (α × Int)} {k : α} (hr : ∀ p ∈ m, kmin .i64 ≤ p.2 ∧ p.2 ≤ kmax .i64) : kmin .i64 ≤ mapGet m k ∧ mapGet m k ≤ kmax .i64 := by
  induction m with
  | nil => exact ⟨show kmin .i64 ≤ 0 by decide, show 0 ≤ kmax .i64 by decide⟩
  | cons p m ih =>
    obtain ⟨a, b⟩ := p
    simp only [mapGet]
    by_cases hk : a = k
    · simp only [hk, if_true]; exact hr (a, b) (List.mem_cons_self ..)
    · simp only [hk, if_false]; exact ih fun q hq => hr q (List.mem_cons_of_mem _ hq)
theorem put_mem {α : Type} [DecidableEq α] {m : List (α × Int)} {k : α} {x : Int} (hr : ∀ p ∈ m, kmin .i64 ≤ p.2 ∧ p.2 ≤ kmax .i64) (hx : kmin .i64 ≤ x ∧ x ≤ kmax .i64) : ∀ p ∈ mapPut m k x, kmin .i64 ≤ p.2 ∧ p.2 ≤ kmax .i64 := by
  induction m with
  | nil => intro p hp; simp [mapPut] at hp; subst hp; exact hx
  | cons q m ih =>
    obtain ⟨a, b⟩ := q
    intro p hp
    simp only [mapPut] at hp
    by_cases hk : a = k
    · simp only [hk, if_true, List.mem_cons] at hp
      rcases hp with rfl | hp
      · exact hx
      · exact hr p (List.mem_cons_of_mem _ hp)
    · simp only [hk, if_false, List.mem_cons] at hp
      rcases hp with rfl | hp
      · exact hr (a, b) (List.mem_cons_self ..)
      · exact ih (fun q hq => hr q (List.mem_cons_of_mem _ hq)) p hp

theorem beq_bytes (k a : ByteArray) : (k == a) = true ↔ k = a := by
  cases k; cases a
  rename_i x y
  have : ((⟨x⟩ : ByteArray) == ⟨y⟩) = (x == y) := rfl
  rw [this, beq_iff_eq]; simp
theorem same_str (k a : ByteArray) : Instr.sameNow .string (.string k) (.string a) = some (decide (a = k)) := by
  simp only [Instr.sameNow]; congr 1
  rw [Bool.eq_iff_iff, decide_eq_true_eq]
  rw [beq_bytes]; exact eq_comm
theorem same_int (k a : Int) : Instr.sameNow (.int .i64) (.int .i64 k) (.int .i64 a) = some (decide (a = k)) := by
  simp only [Instr.sameNow, if_true]; congr 1
  rw [Bool.eq_iff_iff, decide_eq_true_eq]
  exact ⟨fun h => (of_decide_eq_true h).symm, fun h => decide_eq_true h.symm⟩

theorem check_plain {t : Nat} {d : TypeDesc} (ht : P.underlying t = some d) (hd : d = .string ∨ d = .int .i64) (e : Bool) (v : Value) : (Instr.checkKey e 10000 t v).run P W = .ok () W := by
  suffices ∀ n, (Instr.checkKey e (n + 1) t v).run P W = .ok () W from this 9999
  intro n
  rcases hd with rfl | rfl <;> simp [Instr.checkKey, run_und ht]

theorem lookup_ok {t kt vt b : Nat} {dk : TypeDesc} (ht : P.underlying t = some (.map kt vt)) (hk : P.underlying kt = some dk) (hd : dk = .string ∨ dk = .int .i64) {inf : TypeInfo} (hv : P.info? vt = some inf) (hz : inf.zero = some (.int .i64 0))
    {α : Type} [DecidableEq α] {key : α → Value} {k : α} (hs : ∀ a, Instr.sameNow dk (key k) (key a) = some (decide (a = k))) {es : Array MapEntry} {clock : Nat} {m : List (α × Int)} (hb : W.heap[b]? = some (.map es clock)) (he : Ent key es.toList m) :
    (Instr.lookup t (.map (some b)) (key k) false).run P W = .ok (.int .i64 (mapGet m k)) W := by
  have hget : (getObj b).run P W = .ok (.map es clock) W := by simp [getObj, Sem.run, hb]
  have hf : (Instr.findKey kt (key k) es.toList).run P W = .ok (placeOf m k 0) W := by
    simp [Instr.findKey, run_und hk, find_now hs 0 he]
  have hg := get_of m k 0
  cases hp : placeOf m k 0 with
  | none =>
    rw [hp] at hf hg
    simp only at hg
    simp [Instr.lookup, run_und ht, hget, check_plain hk hd, hf, run_zero hv hz, hg]
  | some q =>
    obtain ⟨j, v⟩ := q
    obtain ⟨b', rfl, _, _, _⟩ := place_int m k 0 hp
    rw [hp] at hf hg
    simp only at hg
    simp [Instr.lookup, run_und ht, hget, check_plain hk hd, hf, hg]

theorem update_ok {t kt vt b : Nat} {dk : TypeDesc} (ht : P.underlying t = some (.map kt vt)) (hk : P.underlying kt = some dk) (hd : dk = .string ∨ dk = .int .i64)
    {α : Type} [DecidableEq α] {key : α → Value} {k : α} {x : Int} (hs : ∀ a, Instr.sameNow dk (key k) (key a) = some (decide (a = k))) (hsb : Instr.sameBits 10000 (key k) (key k) = true) {es : Array MapEntry} {clock : Nat} {m : List (α × Int)} (hb : W.heap[b]? = some (.map es clock)) (he : Ent key es.toList m) :
    ∃ es' clock', (Instr.mapUpdate t (.map (some b)) (key k) (.int .i64 x)).run P W = .ok () { W with heap := W.heap.setIfInBounds b (.map es' clock') } ∧ Ent key es'.toList (mapPut m k x) := by
  have hget : (getObj b).run P W = .ok (.map es clock) W := by simp [getObj, Sem.run, hb]
  have hset : ∀ o, (setObj b o).run P W = .ok () { W with heap := W.heap.setIfInBounds b o } := fun o => by simp [setObj, Sem.run, hb]
  have hf : (Instr.findKey kt (key k) es.toList).run P W = .ok (placeOf m k 0) W := by
    simp [Instr.findKey, run_und hk, find_now hs 0 he]
  cases hp : placeOf m k 0 with
  | none =>
    rw [hp] at hf
    refine ⟨es.push ⟨key k, .int .i64 x, clock⟩, clock + 1, by simp [Instr.mapUpdate, run_und ht, hget, check_plain hk hd, hf, hset], ?_⟩
    rw [place_none m k 0 hp]
    unfold Ent at he ⊢
    simp [he]
  | some q =>
    obtain ⟨j, v⟩ := q
    obtain ⟨b', rfl, _, h3, h4⟩ := place_int m k 0 hp
    rw [hp] at hf
    simp only [Nat.sub_zero] at h3 h4
    have hj : (es.toList.map fun e => (e.key, e.val))[j]? = some (key k, Value.int .i64 b') := by
      have : es.toList.map (fun e => (e.key, e.val)) = _ := he
      rw [this, List.getElem?_map, h3]; rfl
    have hkey : ((es[j]?).map (·.key)).getD (key k) = key k := by
      rw [List.getElem?_map] at hj
      rw [← Array.getElem?_toList]
      cases h : es.toList[j]? with
      | none => rfl
      | some e => rw [h] at hj; simp at hj; simp [hj.1]
    refine ⟨es.modify j fun e => { e with key := key k, val := .int .i64 x }, clock, ?_, ?_⟩
    · simp [Instr.mapUpdate, run_und ht, hget, check_plain hk hd, hf, hset, hkey, Instr.keyThatStays, hsb]
    · rw [h4]
      unfold Ent at he ⊢
      rw [List.map_set, ← he]
      apply List.ext_getElem?
      intro i
      rw [List.getElem?_map, Array.getElem?_toList, Array.getElem?_modify, List.getElem?_set]
      by_cases hij : j = i
      · subst hij
        cases h : es[j]? with
        | none =>
          have : es.size ≤ j := by rw [Array.getElem?_eq_none_iff] at h; exact h
          simp; omega
        | some e =>
          have : j < es.size := (Array.getElem?_eq_some_iff.1 h).1
          simp [this]
      · simp only [hij, if_false]
        rw [List.getElem?_map, Array.getElem?_toList]
end
end Go.Sy
