/- What a symbolic value means in a world. -/
import Derived.Test.YtbdfibaljoedpaaDoorSyOp
set_option linter.unusedVariables false
set_option linter.unusedSimpArgs false
namespace Go.Sy
open Go.RowKit

/-- Where the errors of package api lie; their type; the type of an error with a place. -/
structure Ctx where
  ea : Int → Addr
  tE : Nat
  tAt : Nat
  /-- which of them there are -/
  has : Int → Prop

structure InI (k : IntKind) (n : SI) : Prop where
  lo : kmin k ≤ n.val
  hi : n.val ≤ kmax k
  lo' : n.lo k ≤ n.val
  hi' : n.val ≤ n.hi k

def CellsAt (W : World) (b off : Nat) (vs : List Value) : Prop := ∀ j v, vs[j]? = some v → W.cell? ⟨b, off + j, none⟩ = some v

mutual
inductive Den (C : Ctx) (W : World) (R : Nat → Prop) (ρ : Nat → Option Value) : SVal → Value → Prop where
  | any (v : Value) : Den C W R ρ .any v
  | int (k : IntKind) (n : SI) : InI k n → Den C W R ρ (.int k n) (.int k n.val)
  | bool (b : SB) : Den C W R ρ (.bool b) (.bool b.val)
  | str (s : ByteArray) : s.size ≤ maxLen → Den C W R ρ (.str s) (.string s)
  | nilptr : Den C W R ρ .nilptr (.pointer none)
  | ptr (r off b : Nat) : ρ r = some (.pointer (some ⟨b, 0, none⟩)) → Den C W R ρ (.ptr r off) (.pointer (some ⟨b, off, none⟩))
  | eptr (r w : Nat) (i : Int) (j b n cap : Nat) : ρ r = some (.slice (some ⟨b, 0, none⟩) n cap) → 0 ≤ i → i < n → Den C W R ρ (.eptr r w i j) (.pointer (some ⟨b, i.toNat * w + j, none⟩))
  | aptr (r off w n : Nat) (i : Int) (j b : Nat) : ρ r = some (.pointer (some ⟨b, 0, none⟩)) → 0 ≤ i → i < n → Den C W R ρ (.aptr r off w n i j) (.pointer (some ⟨b, off + i.toNat * w + j, none⟩))
  | rop (l : List SVal) (vs : List Value) (b off : Nat) : R b → DenL C W R ρ l vs → CellsAt W b off vs → Den C W R ρ (.rop l) (.pointer (some ⟨b, off, none⟩))
  | nilslice : Den C W R ρ .nilslice (.slice none 0 0)
  | own (r : Nat) (A : Option Addr) (n cap : Nat) : ρ r = some (.slice A n cap) → Den C W R ρ (.own r) (.slice A n cap)
  | view (t : RT) (r k n : Nat) (A A' : Option Addr) (m cap cap' : Nat) : ρ r = some (.slice A m cap) → k + n ≤ m → n ≤ cap' → cap' ≤ maxLen →
      (0 < n → ∃ b, A = some ⟨b, 0, none⟩ ∧ A' = some ⟨b, k * t.w, none⟩) → Den C W R ρ (.view t r k n) (.slice A' n cap')
  | ro (t : RT) (l : List t.ty) (A : Option Addr) (cap : Nat) (vs : List Value) : l.length ≤ cap → cap ≤ maxLen → DenL C W R ρ (l.flatMap t.enc) vs →
      (l ≠ [] → ∃ b off, A = some ⟨b, off, none⟩ ∧ R b ∧ CellsAt W b off vs) → Den C W R ρ (.ro t l) (.slice A l.length cap)
  | nilmap : Den C W R ρ .nilmap (.map none)
  | map (r b : Nat) : ρ r = some (.map (some b)) → Den C W R ρ (.map r) (.map (some b))
  | nilFunc : Den C W R ρ .nilFunc .nilFunc
  | func (f : Nat) (l : List SVal) (vs : List Value) : DenA C W R ρ l vs → Den C W R ρ (.func f l) (.func (.func f) #[] vs.toArray)
  | nilIface : Den C W R ρ .nilIface .nilIface
  | iface (t : Nat) (s : SVal) (v : Value) : Den C W R ρ s v → Den C W R ρ (.iface t s) (.iface t v)
  | fine : Den C W R ρ (.err .fine) .nilIface
  | bare (n : Int) : C.has n → Den C W R ρ (.err (.bare n)) (.iface C.tE (.pointer (some (C.ea n))))
  | placed (n p : Int) (b off : Nat) : C.has n → R b → kmin .i64 ≤ p → p ≤ kmax .i64 → CellsAt W b off [.int .i64 p, .iface C.tE (.pointer (some (C.ea n)))] →
      Den C W R ρ (.err (.placed n p)) (.iface C.tAt (.pointer (some ⟨b, off, none⟩)))
  | atp (n p : Int) (b off : Nat) : C.has n → R b → kmin .i64 ≤ p → p ≤ kmax .i64 → CellsAt W b off [.int .i64 p, .iface C.tE (.pointer (some (C.ea n)))] →
      Den C W R ρ (.atp (.placed n p)) (.pointer (some ⟨b, off, none⟩))
  | atnil (e : FErr) : e.isPlaced = false → Den C W R ρ (.atp e) (.pointer none)
  | agg (l : List SVal) (vs : List Value) : DenL C W R ρ l vs → Den C W R ρ (.agg l) (.agg vs.toArray)
  | arr (t : RT) (n : Nat) (xs : List t.ty) (vs : List Value) : xs.length = n → DenL C W R ρ (xs.flatMap t.enc) vs → Den C W R ρ (.arr t n xs) (.agg vs.toArray)
  | tuple (l : List SVal) (vs : List Value) : DenA C W R ρ l vs → Den C W R ρ (.tuple l) (.tuple vs.toArray)
inductive DenL (C : Ctx) (W : World) (R : Nat → Prop) (ρ : Nat → Option Value) : List SVal → List Value → Prop where
  | nil : DenL C W R ρ [] []
  | one (s : SVal) (v : Value) (l : List SVal) (vs : List Value) : s.isArr = false → v.oneCell' = true → Den C W R ρ s v → DenL C W R ρ l vs → DenL C W R ρ (s :: l) (v :: vs)
  | arr (t : RT) (n : Nat) (xs : List t.ty) (us : List Value) (l : List SVal) (vs : List Value) : xs.length = n → DenL C W R ρ (xs.flatMap t.enc) us → DenL C W R ρ l vs →
      DenL C W R ρ (.arr t n xs :: l) (us ++ vs)
inductive DenA (C : Ctx) (W : World) (R : Nat → Prop) (ρ : Nat → Option Value) : List SVal → List Value → Prop where
  | nil : DenA C W R ρ [] []
  | cons (s : SVal) (v : Value) (l : List SVal) (vs : List Value) : Den C W R ρ s v → DenA C W R ρ l vs → DenA C W R ρ (s :: l) (v :: vs)
end

theorem CellsAt.mono {W W' : World} {b off : Nat} {vs : List Value} (h : CellsAt W b off vs) (e : W'.heap[b]? = W.heap[b]?) : CellsAt W' b off vs :=
  fun j v hv => (World.cell?_of_block (w := W) (w' := W') (a := ⟨b, off + j, none⟩) e).trans (h j v hv)
theorem CellsAt.drop {W : World} {b off : Nat} {vs : List Value} (h : CellsAt W b off vs) (k : Nat) : CellsAt W b (off + k) (vs.drop k) := fun j v hv => by
  rw [List.getElem?_drop] at hv
  have := h (k + j) v hv
  rwa [← Nat.add_assoc] at this
theorem CellsAt.left {W : World} {b off : Nat} {vs us : List Value} (h : CellsAt W b off (vs ++ us)) : CellsAt W b off vs := fun j v hv =>
  h j v (by rw [List.getElem?_append_left (List.getElem?_eq_some_iff.1 hv).1]; exact hv)
theorem CellsAt.take {W : World} {b off : Nat} {vs : List Value} (h : CellsAt W b off vs) (k : Nat) : CellsAt W b off (vs.take k) :=
  CellsAt.left (us := vs.drop k) (by rw [List.take_append_drop]; exact h)

section
variable {C : Ctx} {W W' : World} {R R' : Nat → Prop} {ρ ρ' : Nat → Option Value}

mutual
theorem Den.mono (hR : ∀ b, R b → R' b) (hW : ∀ b, R b → W'.heap[b]? = W.heap[b]?) (hρ : ∀ r v, ρ r = some v → ρ' r = some v) : ∀ {s v}, Den C W R ρ s v → Den C W' R' ρ' s v
  | _, _, .any v => .any v
  | _, _, .int k n h => .int k n h
  | _, _, .bool b => .bool b
  | _, _, .str s h => .str s h
  | _, _, .nilptr => .nilptr
  | _, _, .ptr r off b h => .ptr r off b (hρ _ _ h)
  | _, _, .eptr r w i j b n cap h h1 h2 => .eptr r w i j b n cap (hρ _ _ h) h1 h2
  | _, _, .aptr r off w n i j b h h1 h2 => .aptr r off w n i j b (hρ _ _ h) h1 h2
  | _, _, .rop l vs b off h1 h2 h3 => .rop l vs b off (hR _ h1) (DenL.mono hR hW hρ h2) (h3.mono (hW _ h1))
  | _, _, .nilslice => .nilslice
  | _, _, .own r A n cap h => .own r A n cap (hρ _ _ h)
  | _, _, .view t r k n A A' m cap cap' h h1 h2 h3 h4 => .view t r k n A A' m cap cap' (hρ _ _ h) h1 h2 h3 h4
  | _, _, .ro t l A cap vs h1 h2 h3 h4 => .ro t l A cap vs h1 h2 (DenL.mono hR hW hρ h3) (fun hl => let ⟨b, off, e, hb, hc⟩ := h4 hl; ⟨b, off, e, hR _ hb, hc.mono (hW _ hb)⟩)
  | _, _, .nilmap => .nilmap
  | _, _, .map r b h => .map r b (hρ _ _ h)
  | _, _, .nilFunc => .nilFunc
  | _, _, .func f l vs h => .func f l vs (DenA.mono hR hW hρ h)
  | _, _, .nilIface => .nilIface
  | _, _, .iface t s v h => .iface t s v (Den.mono hR hW hρ h)
  | _, _, .fine => .fine
  | _, _, .bare n h => .bare n h
  | _, _, .placed n p b off h1 h2 h3 h4 h5 => .placed n p b off h1 (hR _ h2) h3 h4 (h5.mono (hW _ h2))
  | _, _, .atp n p b off h1 h2 h3 h4 h5 => .atp n p b off h1 (hR _ h2) h3 h4 (h5.mono (hW _ h2))
  | _, _, .atnil e h => .atnil e h
  | _, _, .agg l vs h => .agg l vs (DenL.mono hR hW hρ h)
  | _, _, .arr t n xs vs h1 h2 => .arr t n xs vs h1 (DenL.mono hR hW hρ h2)
  | _, _, .tuple l vs h => .tuple l vs (DenA.mono hR hW hρ h)
theorem DenL.mono (hR : ∀ b, R b → R' b) (hW : ∀ b, R b → W'.heap[b]? = W.heap[b]?) (hρ : ∀ r v, ρ r = some v → ρ' r = some v) : ∀ {l vs}, DenL C W R ρ l vs → DenL C W' R' ρ' l vs
  | _, _, .nil => .nil
  | _, _, .one s v l vs h1 h2 h3 h4 => .one s v l vs h1 h2 (Den.mono hR hW hρ h3) (DenL.mono hR hW hρ h4)
  | _, _, .arr t n xs us l vs h1 h2 h3 => .arr t n xs us l vs h1 (DenL.mono hR hW hρ h2) (DenL.mono hR hW hρ h3)
theorem DenA.mono (hR : ∀ b, R b → R' b) (hW : ∀ b, R b → W'.heap[b]? = W.heap[b]?) (hρ : ∀ r v, ρ r = some v → ρ' r = some v) : ∀ {l vs}, DenA C W R ρ l vs → DenA C W' R' ρ' l vs
  | _, _, .nil => .nil
  | _, _, .cons s v l vs h1 h2 => .cons s v l vs (Den.mono hR hW hρ h1) (DenA.mono hR hW hρ h2)
end

/-! Lists of cells -/
theorem DenL.app {l l' : List SVal} {vs vs' : List Value} (h : DenL C W R ρ l vs) (h' : DenL C W R ρ l' vs') : DenL C W R ρ (l ++ l') (vs ++ vs') := by
  induction l generalizing vs with
  | nil => cases h; exact h'
  | cons s l ih =>
    cases h with
    | one _ v _ us h1 h2 h3 h4 => exact .one _ _ _ _ h1 h2 h3 (ih h4)
    | arr t n xs us _ us' h1 h2 h3 => rw [List.append_assoc]; exact .arr t n xs us _ _ h1 h2 (ih h3)

theorem DenL.split {l l' : List SVal} {vs : List Value} (h : DenL C W R ρ (l ++ l') vs) : ∃ us us', vs = us ++ us' ∧ DenL C W R ρ l us ∧ DenL C W R ρ l' us' := by
  induction l generalizing vs with
  | nil => exact ⟨[], vs, rfl, .nil, h⟩
  | cons s l ih =>
    cases h with
    | one _ v _ us h1 h2 h3 h4 =>
      obtain ⟨a, b, rfl, ha, hb⟩ := ih h4
      exact ⟨v :: a, b, rfl, .one _ _ _ _ h1 h2 h3 ha, hb⟩
    | arr t n xs us _ us' h1 h2 h3 =>
      obtain ⟨a, b, rfl, ha, hb⟩ := ih h3
      exact ⟨us ++ a, b, by rw [List.append_assoc], .arr t n xs us _ _ h1 h2 ha, hb⟩

theorem DenL.ones : ∀ {l : List SVal} {vs : List Value}, DenL C W R ρ l vs → ∀ u ∈ vs, u.oneCell' = true
  | _, _, .nil, _, h => by cases h
  | _, _, .one s v l vs h1 h2 h3 h4, u, h => by
    cases h with
    | head => exact h2
    | tail _ h => exact DenL.ones h4 u h
  | _, _, .arr t n xs us l vs h1 h2 h3, u, h => by
    rcases List.mem_append.1 h with h | h
    · exact DenL.ones h2 u h
    · exact DenL.ones h3 u h

theorem enc_w (t : RT) (x : t.ty) : (t.enc x).length = t.w := by cases t <;> rfl
theorem enc_noarr (t : RT) (x : t.ty) : ∀ s ∈ t.enc x, s.isArr = false := by
  cases t <;> simp [RT.enc, In5.enc, SVal.isArr]
theorem flat_w (t : RT) (l : List t.ty) : (l.flatMap t.enc).length = l.length * t.w := by
  induction l with
  | nil => simp
  | cons x l ih => rw [List.flatMap_cons, List.length_append, enc_w, ih, List.length_cons, Nat.succ_mul, Nat.add_comm]
theorem flat_noarr (t : RT) (l : List t.ty) : ∀ s ∈ l.flatMap t.enc, s.isArr = false := by
  intro s hs
  obtain ⟨x, _, hx⟩ := List.mem_flatMap.1 hs
  exact enc_noarr t x s hx

theorem DenL.len_noarr {l : List SVal} {vs : List Value} (h : DenL C W R ρ l vs) (hn : ∀ s ∈ l, s.isArr = false) : vs.length = l.length := by
  induction l generalizing vs with
  | nil => cases h; rfl
  | cons s l ih =>
    cases h with
    | one _ v _ us h1 h2 h3 h4 => simp [ih h4 (fun s hs => hn s (List.mem_cons_of_mem _ hs))]
    | arr t n xs us _ us' h1 h2 h3 => have := hn _ (List.mem_cons_self ..); simp [SVal.isArr] at this

theorem DenL.len {l : List SVal} {vs : List Value} (h : DenL C W R ρ l vs) : vs.length = (l.map SVal.width).sum := by
  induction l generalizing vs with
  | nil => cases h; rfl
  | cons s l ih =>
    cases h with
    | one _ v _ us h1 h2 h3 h4 =>
      have : s.width = 1 := by cases s <;> first | rfl | (simp [SVal.isArr] at h1)
      simp [ih h4, this]; omega
    | arr t n xs us _ us' h1 h2 h3 =>
      have : us.length = n * t.w := by rw [h2.len_noarr (flat_noarr t xs), flat_w, h1]
      simp [ih h3, SVal.width, this]

theorem DenL.elem {t : RT} {l : List t.ty} {vs : List Value} (h : DenL C W R ρ (l.flatMap t.enc) vs) {i : Nat} (hi : i < l.length) :
    DenL C W R ρ (t.enc (l.getD i t.dflt)) ((vs.drop (i * t.w)).take t.w) ∧ ((vs.drop (i * t.w)).take t.w).length = t.w := by
  have e : l = l.take i ++ l.getD i t.dflt :: l.drop (i + 1) := by
    rw [List.getD_eq_getElem?_getD, List.getElem?_eq_getElem hi]; simp
  have h' := h
  rw [e, List.flatMap_append, List.flatMap_cons] at h'
  obtain ⟨a, b, rfl, ha, hb⟩ := h'.split
  obtain ⟨c, d, rfl, hc, hd⟩ := hb.split
  have la : a.length = i * t.w := by rw [ha.len_noarr (flat_noarr t _), flat_w, List.length_take, Nat.min_eq_left (Nat.le_of_lt hi)]
  have lc : c.length = t.w := by rw [hc.len_noarr (enc_noarr t _), enc_w]
  have e2 : ((a ++ (c ++ d)).drop (i * t.w)).take t.w = c := by
    rw [← la, List.drop_left, ← lc, List.take_left]
  rw [e2]
  exact ⟨hc, lc⟩

theorem DenL.sub {t : RT} {l : List t.ty} {vs : List Value} (h : DenL C W R ρ (l.flatMap t.enc) vs) (k n : Nat) :
    DenL C W R ρ (((l.drop k).take n).flatMap t.enc) ((vs.drop (k * t.w)).take (n * t.w)) := by
  have lv : vs.length = l.length * t.w := by rw [h.len_noarr (flat_noarr t l), flat_w]
  by_cases hk : k ≤ l.length
  · have e : l = l.take k ++ ((l.drop k).take n ++ (l.drop k).drop n) := by rw [List.take_append_drop, List.take_append_drop]
    have h' := h
    rw [e, List.flatMap_append, List.flatMap_append] at h'
    obtain ⟨a, b, rfl, ha, hb⟩ := h'.split
    obtain ⟨c, d, rfl, hc, hd⟩ := hb.split
    have la : a.length = k * t.w := by rw [ha.len_noarr (flat_noarr t _), flat_w, List.length_take, Nat.min_eq_left hk]
    have lc : c.length = ((l.drop k).take n).length * t.w := by rw [hc.len_noarr (flat_noarr t _), flat_w]
    rw [← la, List.drop_left]
    by_cases hn : n ≤ (l.drop k).length
    · rw [List.length_take, Nat.min_eq_left hn] at lc
      rw [← lc, List.take_left]; exact hc
    · have e1 : (l.drop k).drop n = [] := List.drop_eq_nil_of_le (by omega)
      rw [e1] at hd
      cases hd
      have e2 : c.take (n * t.w) = c := List.take_of_length_le (by rw [lc, List.length_take]; exact Nat.mul_le_mul_right _ (by omega))
      rw [List.append_nil, e2]; exact hc
  · have e1 : l.drop k = [] := List.drop_eq_nil_of_le (by omega)
    have e2 : vs.drop (k * t.w) = [] := List.drop_eq_nil_of_le (by rw [lv]; exact Nat.mul_le_mul_right _ (by omega))
    rw [e1, e2]; simp; exact .nil

theorem setL {t : RT} {l : List t.ty} {vs us : List Value} {x : t.ty} (h : DenL C W R ρ (l.flatMap t.enc) vs) {i : Nat} (hi : i < l.length) (hx : DenL C W R ρ (t.enc x) us) :
    DenL C W R ρ ((l.set i x).flatMap t.enc) (vs.take (i * t.w) ++ us ++ vs.drop ((i + 1) * t.w)) := by
  have e : l = l.take i ++ l.getD i t.dflt :: l.drop (i + 1) := by
    rw [List.getD_eq_getElem?_getD, List.getElem?_eq_getElem hi]; simp
  have e2 : l.set i x = l.take i ++ x :: l.drop (i + 1) := List.set_eq_take_append_cons_drop .. |>.trans (by simp [hi])
  have h' := h
  rw [e, List.flatMap_append, List.flatMap_cons] at h'
  obtain ⟨a, b, rfl, ha, hb⟩ := h'.split
  obtain ⟨c, d, rfl, hc, hd⟩ := hb.split
  have la : a.length = i * t.w := by rw [ha.len_noarr (flat_noarr t _), flat_w, List.length_take, Nat.min_eq_left (Nat.le_of_lt hi)]
  have lc : c.length = t.w := by rw [hc.len_noarr (enc_noarr t _), enc_w]
  rw [e2, List.flatMap_append, List.flatMap_cons, ← la, List.take_left, List.append_assoc]
  have e3 : (a ++ (c ++ d)).drop ((i + 1) * t.w) = d := by
    rw [← List.append_assoc, Nat.succ_mul, ← la, ← lc, ← List.length_append, List.drop_left]
  rw [e3]
  exact ha.app (hx.app hd)

theorem DenL.dropW : ∀ {l : List SVal} {off : Nat} {l' : List SVal} {vs : List Value}, DenL C W R ρ l vs → dropW l off = some l' → DenL C W R ρ l' (vs.drop off)
  | l, 0, l', vs, h, e => by
    unfold Sy.dropW at e
    simp_all
  | [], _ + 1, _, _, _, e => by simp [Sy.dropW] at e
  | s :: l, n + 1, l', vs, h, e => by
    simp only [Sy.dropW] at e
    split at e
    · rename_i hw
      cases h with
      | one _ v _ us h1 h2 h3 h4 =>
        have hw1 : s.width = 1 := by cases s <;> first | rfl | (simp [SVal.isArr] at h1)
        rw [hw1] at e
        simpa using DenL.dropW h4 e
      | arr t m xs us _ us' h1 h2 h3 =>
        have lu : us.length = m * t.w := by rw [h2.len_noarr (flat_noarr t xs), flat_w, h1]
        have := DenL.dropW h3 e
        rw [List.drop_append, List.drop_eq_nil_of_le (by rw [lu]; exact hw), lu]
        simpa [SVal.width] using this
    · simp at e
termination_by l off => l.length

theorem DenL.takeW : ∀ {l : List SVal} {n : Nat} {l' : List SVal} {vs : List Value}, DenL C W R ρ l vs → takeW l n = some l' → DenL C W R ρ l' (vs.take n) ∧ (vs.take n).length = n
  | l, 0, l', vs, h, e => by
    unfold Sy.takeW at e
    simp_all
    exact .nil
  | [], _ + 1, _, _, _, e => by simp [Sy.takeW] at e
  | s :: l, n + 1, l', vs, h, e => by
    simp only [Sy.takeW] at e
    split at e
    · rename_i hw
      cases ht : Sy.takeW l (n + 1 - s.width) with
      | none => rw [ht] at e; simp at e
      | some l'' =>
        rw [ht] at e; simp at e; subst e
        cases h with
        | one _ v _ us h1 h2 h3 h4 =>
          have hw1 : s.width = 1 := by cases s <;> first | rfl | (simp [SVal.isArr] at h1)
          rw [hw1] at ht
          obtain ⟨i1, i2⟩ := DenL.takeW h4 ht
          simp only [Nat.add_sub_cancel] at i1 i2
          exact ⟨by rw [List.take_succ_cons]; exact .one _ _ _ _ h1 h2 h3 i1, by rw [List.take_succ_cons]; simp [i2]⟩
        | arr t m xs us _ us' h1 h2 h3 =>
          have lu : us.length = m * t.w := by rw [h2.len_noarr (flat_noarr t xs), flat_w, h1]
          obtain ⟨i1, i2⟩ := DenL.takeW h3 ht
          have hw' : us.length ≤ n + 1 := by rw [lu]; exact hw
          have e1 : SVal.width (.arr t m xs) = us.length := by rw [lu]; rfl
          rw [e1] at i1 i2
          rw [List.take_append, List.take_of_length_le hw']
          exact ⟨.arr t m xs us _ _ h1 h2 i1, by rw [List.length_append, i2]; omega⟩
    · simp at e
termination_by l n => l.length

theorem DenL.setW : ∀ {l : List SVal} {off : Nat} {new l' : List SVal} {vs us : List Value}, DenL C W R ρ l vs → DenL C W R ρ new us → setW l off new = some l' →
    DenL C W R ρ l' (vs.take off ++ us ++ vs.drop (off + us.length)) ∧ off + us.length ≤ vs.length
  | l, 0, new, l', vs, us, h, hn, e => by
    have e' : (Sy.dropW l (new.map SVal.width).sum).map (new ++ ·) = some l' := by
      unfold Sy.setW at e; exact e
    cases hd : Sy.dropW l (new.map SVal.width).sum with
    | none => rw [hd] at e'; simp at e'
    | some l'' =>
      rw [hd] at e'; simp at e'; subst e'
      have := h.dropW hd
      rw [← hn.len] at this
      refine ⟨by simpa using hn.app this, ?_⟩
      have hl := h.len
      have : ∀ (l : List SVal) (n : Nat) (l' : List SVal), Sy.dropW l n = some l' → n ≤ (l.map SVal.width).sum := by
        intro l
        induction l with
        | nil => intro n l' e; cases n <;> simp [Sy.dropW] at e ⊢
        | cons s l ih =>
          intro n l' e
          cases n with
          | zero => simp
          | succ n =>
            simp only [Sy.dropW] at e
            split at e
            · rename_i hw
              have := ih _ _ e
              simp; omega
            · simp at e
      have := this _ _ _ hd
      rw [hn.len]; omega
  | [], _ + 1, _, _, _, _, _, _, e => by simp [Sy.setW] at e
  | s :: l, n + 1, new, l', vs, us, h, hn, e => by
    simp only [Sy.setW] at e
    split at e
    · rename_i hw
      cases ht : Sy.setW l (n + 1 - s.width) new with
      | none => rw [ht] at e; simp at e
      | some l'' =>
        rw [ht] at e; simp at e; subst e
        cases h with
        | one _ v _ ws h1 h2 h3 h4 =>
          have hw1 : s.width = 1 := by cases s <;> first | rfl | (simp [SVal.isArr] at h1)
          rw [hw1] at ht
          obtain ⟨i1, i2⟩ := DenL.setW h4 hn ht
          simp only [Nat.add_sub_cancel] at i1 i2
          refine ⟨?_, by simp; omega⟩
          have e1 : n + 1 + us.length = (n + us.length) + 1 := by omega
          rw [e1, List.take_succ_cons, List.drop_succ_cons]
          exact .one _ _ _ _ h1 h2 h3 i1
        | arr t m xs as _ ws h1 h2 h3 =>
          have lu : as.length = m * t.w := by rw [h2.len_noarr (flat_noarr t xs), flat_w, h1]
          obtain ⟨i1, i2⟩ := DenL.setW h3 hn ht
          have hw' : as.length ≤ n + 1 := by rw [lu]; exact hw
          have e1 : SVal.width (.arr t m xs) = as.length := by rw [lu]; rfl
          rw [e1] at i1 i2
          refine ⟨?_, by rw [List.length_append]; omega⟩
          rw [List.take_append, List.take_of_length_le hw', List.drop_append, List.drop_eq_nil_of_le (by omega), List.nil_append]
          rw [show n + 1 + us.length - as.length = n + 1 - as.length + us.length by omega, List.append_assoc, List.append_assoc, ← List.append_assoc (List.take _ ws)]
          exact .arr t m xs as _ _ h1 h2 i1
    · simp at e
termination_by l off => l.length
end
end Go.Sy
