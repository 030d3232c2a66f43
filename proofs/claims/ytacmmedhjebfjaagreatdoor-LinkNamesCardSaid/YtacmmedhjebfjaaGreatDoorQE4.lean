/- Words that the proofs use, part 4. -/
import Derived.Test.YtacmmedhjebfjaaGreatDoorQE3
import Derived.Laws.OwnMore
import Derived.Below
set_option linter.unusedVariables false
set_option linter.unusedSimpArgs false
namespace Go.Sy
open Go.RowKit
theorem kmin_le (k : IntKind) : kmin k ≤ kmax k := by cases k <;> decide
theorem InI.full {k : IntKind} {n : Int} (h1 : kmin k ≤ n) (h2 : n ≤ kmax k) : InI k (.full n) := ⟨h1, h2, h1, h2⟩
theorem InI.to_full {k : IntKind} {n : SI} (h : InI k n) : InI k (.full n.val) := ⟨h.lo, h.hi, h.lo, h.hi⟩
section
variable {C : Ctx} {W W' : World} {R R' : Nat → Prop} {ρ ρ' : Nat → Option Value}
theorem DenL.inv_one {s : SVal} {l : List SVal} {vs : List Value} (h : DenL C W R ρ (s :: l) vs) (hs : s.isArr = false) : ∃ v us, vs = v :: us ∧ v.oneCell' = true ∧ Den C W R ρ s v ∧ DenL C W R ρ l us := by
 cases h with
 | one _ v _ us h1 h2 h3 h4 => exact ⟨v, us, rfl, h2, h3, h4⟩
 | arr => simp [SVal.isArr] at hs
theorem DenL.inv_nil {vs : List Value} (h : DenL C W R ρ [] vs) : vs = [] := by cases h; rfl
theorem DenL.int_full {k : IntKind} {a : SI} {l l' : List SVal} {vs : List Value} (h : DenL C W R ρ (.int k a :: l) vs) (f : ∀ us, DenL C W R ρ l us → DenL C W R ρ l' us) : DenL C W R ρ (.int k (.full a.val) :: l') vs := by
 obtain ⟨v, us, rfl, h1, h2, h3⟩ := h.inv_one rfl
 cases h2 with
 | int _ _ hi => exact .one _ _ _ _ rfl rfl (.int k (.full a.val) hi.to_full) (f _ h3)
theorem DenL.bool_sym {a : SB} {l l' : List SVal} {vs : List Value} (h : DenL C W R ρ (.bool a :: l) vs) (f : ∀ us, DenL C W R ρ l us → DenL C W R ρ l' us) : DenL C W R ρ (.bool (.sym a.val) :: l') vs := by
 obtain ⟨v, us, rfl, h1, h2, h3⟩ := h.inv_one rfl
 cases h2 with
 | bool => exact .one _ _ _ _ rfl rfl (.bool (.sym a.val)) (f _ h3)
theorem DenL.keep {s : SVal} {l l' : List SVal} {vs : List Value} (hs : s.isArr = false) (h : DenL C W R ρ (s :: l) vs) (f : ∀ us, DenL C W R ρ l us → DenL C W R ρ l' us) : DenL C W R ρ (s :: l') vs := by
 obtain ⟨v, us, rfl, h1, h2, h3⟩ := h.inv_one hs
 exact .one _ _ _ _ hs h1 h2 (f _ h3)
theorem decIn5_den {l : List SVal} {x : In5} {vs : List Value} (e : decIn5 l = some x) (h : DenL C W R ρ l vs) : DenL C W R ρ x.enc vs := by
 unfold decIn5 at e
 split at e <;> simp at e
 subst e
 exact h.int_full fun _ h => h.int_full fun _ h => h.int_full fun _ h => h.int_full fun _ h => h.int_full fun _ h => h
theorem DenL.congr_tail {l1 l2 l2' : List SVal} {vs : List Value} (h : DenL C W R ρ (l1 ++ l2) vs) (f : ∀ us, DenL C W R ρ l2 us → DenL C W R ρ l2' us) : DenL C W R ρ (l1 ++ l2') vs := by
 obtain ⟨a, b, rfl, ha, hb⟩ := h.split
 exact ha.app (f _ hb)
theorem decInt_den {k : IntKind} {l : List SVal} {x : Int} {vs : List Value} (e : decInt k l = some x) (h : DenL C W R ρ l vs) : DenL C W R ρ [.int k (.full x)] vs := by
 unfold decInt at e
 split at e
 ·split at e <;> simp at e
  rename_i hk; simp at hk; subst hk; subst e
  exact h.int_full fun _ h => h
 ·simp at e
theorem FK.dec_den {k : FK} {a : SVal} {l : List SVal} {x : k.ty} {vs : List Value} (e : k.dec a = some x) (h : DenL C W R ρ (a :: l) vs) : DenL C W R ρ (k.enc x :: l) vs := by
 unfold FK.dec at e
 split at e
 ·split at e <;> simp at e
  rename_i hk; simp at hk; subst hk; subst e
  exact h.int_full fun _ h => h
 ·cases e; exact h.bool_sym fun _ h => h
 ·cases e; exact h
 ·cases e
theorem decRec_den : ∀ {k : FK} {ks : List FK} {l : List SVal} {x : recTy k ks} {vs : List Value}, decRec k ks l = some x → DenL C W R ρ l vs → DenL C W R ρ (encRec k ks x) vs
 | k, [], [], x, vs, e, h => by cases e
 | k, [], [a], x, vs, e, h => FK.dec_den e h
 | k, [], a :: b :: l, x, vs, e, h => by cases e
 | k, k' :: ks, [], x, vs, e, h => by cases e
 | k, k' :: ks, a :: l, x, vs, e, h => by
  simp only [decRec] at e
  split at e
  ·rename_i x1 y1 h1 h2
   cases e
   have h3 := FK.dec_den h1 h
   exact DenL.congr_tail (l1 := [k.enc x1]) h3 fun us hu => decRec_den h2 hu
  ·cases e
theorem decRo_den {t : RT} {a : SVal} {x : List t.ty} {l l' : List SVal} {vs : List Value} (e : decRo t a = some x) (h : DenL C W R ρ (a :: l) vs) (f : ∀ us, DenL C W R ρ l us → DenL C W R ρ l' us) : DenL C W R ρ (.ro t x :: l') vs := by
 unfold decRo at e
 split at e
 ·split at e
  ·rename_i h1 _; subst h1; cases e; exact h.keep rfl f
  ·cases e
 ·cases e
  obtain ⟨v, us, rfl, h1, h2, h3⟩ := h.inv_one rfl
  cases h2
  exact .one _ _ _ _ rfl rfl (.ro t [] none 0 [] (Nat.le_refl _) (Nat.zero_le _) .nil (fun h => absurd rfl h) (fun _ => rfl)) (f _ h3)
 ·cases e
theorem dec_den {t : RT} {l : List SVal} {x : t.ty} {vs : List Value} (e : t.dec l = some x) (h : DenL C W R ρ l vs) : DenL C W R ρ (t.enc x) vs := by
 cases t
 case u8 => exact decInt_den e h
 case u32 => exact decInt_den e h
 case i64 => exact decInt_den e h
 case instr => exact decIn5_den e h
 case flat => exact decRec_den e h
 case site =>
  have e : decSt l = some x := e
  unfold decSt at e
  split at e <;> simp at e
  obtain ⟨i, hi, rfl⟩ := e
  exact h.int_full fun _ h => h.int_full fun _ h => decIn5_den hi h
 case line =>
  have e : decLn l = some x := e
  unfold decLn at e
  split at e <;> simp at e
  rename_i a b c d e' f g hh _
  obtain ⟨i, hi, rfl⟩ := e
  have h' : DenL C W R ρ ([a, b, c, d, e'] ++ [.str f, .str g, .bool hh]) vs := h
  obtain ⟨u, w, rfl, hu, hw⟩ := h'.split
  exact (decIn5_den hi hu).app (hw.keep rfl fun _ h => h.keep rfl fun _ h => h.bool_sym fun _ h => h)
 case err =>
  have e : decErr l = some x := e
  unfold decErr at e
  split at e <;> simp at e
  ·subst e; exact h
  ·subst e
   obtain ⟨v, us, rfl, h1, h2, h3⟩ := h.inv_one rfl
   cases h2
   exact .one _ _ _ _ rfl rfl .fine h3
 case bool =>
  have e : decBool l = some x := e
  unfold decBool at e
  split at e <;> simp at e
  subst e; exact h.bool_sym fun _ h => h
 case str =>
  have e : decStr l = some x := e
  unfold decStr at e
  split at e <;> simp at e
  subst e; exact h
 case rel =>
  have e : decRel l = some x := e
  unfold decRel at e
  split at e <;> simp at e
  subst e; exact h.int_full fun _ h => h.int_full fun _ h => h.int_full fun _ h => h.int_full fun _ h => h
 case sym =>
  have e : decSm l = some x := e
  unfold decSm at e
  split at e <;> simp at e
  subst e; exact h.keep rfl fun _ h => h.int_full fun _ h => h.int_full fun _ h => h.bool_sym fun _ h => h
 case slc t =>
  have e : decSlc t l = some x := e
  unfold decSlc at e
  split at e
  ·exact decRo_den e h fun _ h => h
  ·cases e
 case obj =>
  have e : decOb l = some x := e
  unfold decOb at e
  split at e
  ·split at e
   ·rename_i e1 e2 e3 e4 e5 e6
    cases e
    exact decRo_den e1 h fun _ h => decRo_den e2 h fun _ h => decRo_den e3 h fun _ h => decRo_den e4 h fun _ h => decRo_den e5 h fun _ h => decRo_den e6 h fun _ h => h
   ·cases e
  ·cases e
 case fmap k t =>
  have e : decRom k t l = some x := e
  unfold decRom at e
  split at e
  ·cases e
   obtain ⟨v, us, rfl, h1, h2, h3⟩ := h.inv_one rfl
   cases h2
   cases h3
   exact .one _ _ _ _ rfl rfl (.romN k t) .nil
  ·split at e
   ·rename_i h1 h2 _ _
    subst h1; subst h2
    cases e
    exact h
   ·cases e
  ·cases e
end
def blk : Value → Option Nat
 | .pointer (some a) => some a.block
 | .slice (some a) _ _ => some a.block
 | .map r => r
 | _ => none
def opnC (k : FK) (t : RT) (l : List (Option (List (k.ty × t.ty)))) (i : Int) (x : SVal) : List SVal := (l.map fun y => SVal.rom k t y).set i.toNat x
def HoldC (C : Ctx) (W : World) (R : Nat → Prop) (ρ : Nat → Option Value) (v : Value) : Cont → Prop
 | .cells l => ∃ b vs T, v = .pointer (some ⟨b, 0, none⟩) ∧ W.heap[b]? = some (.cells vs.toArray T (0, 0)) ∧ DenL C W R ρ l vs
 | .recs t l => ∃ e vs, W.ownsRow 0 e t.w v l.length vs ∧ DenL C W R ρ (l.flatMap t.enc) vs
 | .row w l => ∃ e vs n, W.ownsRow 0 e w v n vs ∧ DenL C W R ρ l vs ∧ 0 < w
 | .strMap m => ∃ b es clock, v = .map (some b) ∧ W.heap[b]? = some (.map es clock) ∧ es.toList.map (fun e => (e.key, e.val)) = m.map (fun p => (Value.string p.1, Value.int .i64 p.2)) ∧ ∀ p ∈ m, kmin .i64 ≤ p.2 ∧ p.2 ≤ kmax .i64
 | .intMap m => ∃ b es clock, v = .map (some b) ∧ W.heap[b]? = some (.map es clock) ∧ es.toList.map (fun e => (e.key, e.val)) = m.map (fun p => (Value.int .i64 p.1, Value.int .i64 p.2)) ∧ ∀ p ∈ m, kmin .i64 ≤ p.2 ∧ p.2 ≤ kmax .i64
 | .gmap k t m => ∃ b es clock, v = .map (some b) ∧ W.heap[b]? = some (.map es clock) ∧ es.toList.map (fun e => e.key) = m.map (fun p => k.val p.1) ∧ DenA C W R ρ (m.map fun p => recV t p.2) (es.toList.map fun e => e.val)
 | .opn k t l i x => ∃ e vs, W.ownsRow 0 e 1 v l.length vs ∧ DenL C W R ρ (opnC k t l i x) vs ∧ (0 ≤ i ∧ i < (l.length : Int)) ∧ x.isArr = false
structure Base (C : Ctx) (gl : List (Nat × SVal)) (W : World) (R : Nat → Prop) : Prop where
 inR : ∀ b, R b → b < W.heap.size
 inj : ∀ n m, C.has n → C.has m → C.ea n = C.ea m → n = m
 types : C.tE ≠ C.tAt
 spot : ∀ n, C.has n → (C.ea n).spot = none
 sent : ∀ n, C.has n → R (C.ea n).block ∧ ∃ cs T, W.heap[(C.ea n).block]? = some (.cells cs T (0, 0))
 glob : ∀ g s, find g gl = some s → Den C W R (fun _ => none) s (.pointer (some ⟨g, 0, none⟩))
 fix : ∀ b o, C.fix b = some o → R b ∧ W.heap[b]? = some o
structure Mem (C : Ctx) (gl : List (Nat × SVal)) (W : World) (R : Nat → Prop) (ρ : Nat → Option Value) (h : Nat → Option Cont) : Prop where
 base : Base C gl W R
 at_ : ∀ r c, h r = some c → ∃ v, ρ r = some v ∧ HoldC C W R ρ v c
 apart : ∀ r r' c c' v v' b, h r = some c → h r' = some c' → ρ r = some v → ρ r' = some v' → blk v = some b → blk v' = some b → r = r'
 off : ∀ r c v b, h r = some c → ρ r = some v → blk v = some b → ¬ R b
def upd (h : Nat → Option Cont) (ws : List (Nat × Option Cont)) : Nat → Option Cont := fun r => match find r ws with
 | some c => c
 | none => h r
def keys {α : Type} (ws : List (Nat × α)) : List Nat := ws.map (·.1)
theorem find_mem {α : Type} {r : Nat} {l : List (Nat × α)} {a : α} (h : find r l = some a) : (r, a) ∈ l := by
 induction l with
 | nil => cases h
 | cons p l ih =>
  obtain ⟨m, x⟩ := p
  simp only [find] at h
  split at h
  ·rename_i e
   have := Nat.eq_of_beq_eq_true e
   subst this
   cases h
   exact List.mem_cons_self ..
  ·exact List.mem_cons_of_mem _ (ih h)
theorem find_key {α : Type} {r : Nat} {l : List (Nat × α)} {a : α} (h : find r l = some a) : r ∈ keys l := List.mem_map.2 ⟨_, find_mem h, rfl⟩
theorem find_none {α : Type} {r : Nat} {l : List (Nat × α)} (h : find r l = none) : r ∉ keys l := by
 induction l with
 | nil => simp [keys]
 | cons p l ih =>
  obtain ⟨m, x⟩ := p
  simp only [find] at h
  split at h
  ·cases h
  ·rename_i e
   intro hm
   rcases List.mem_cons.1 hm with rfl | hm
   ·have := Nat.beq_refl r; rw [e] at this; cases this
   ·exact ih h hm
structure Trans (C : Ctx) (gl : List (Nat × SVal)) (W : World) (R : Nat → Prop) (ρ : Nat → Option Value) (h : Nat → Option Cont) (ws : List (Nat × Option Cont))
  (W' : World) (R' : Nat → Prop) (ρ' : Nat → Option Value) : Prop where
 mem : Mem C gl W' R' ρ' (upd h ws)
 os : W'.os = W.os
 tape : W'.tape = W.tape
 output : W'.output = W.output
 size : W.heap.size ≤ W'.heap.size
 Rm : ∀ b, R b → R' b
 Rn : ∀ b, R' b → R b ∨ W.heap.size ≤ b ∨ ∃ r c v, r ∈ keys ws ∧ h r = some c ∧ ρ r = some v ∧ blk v = some b
 ρm : ∀ r v, ρ r = some v → ρ' r = some v
 ρn : ∀ r v, ρ' r = some v → ρ r = some v ∨ (ρ r = none ∧ r ∈ keys ws)
 keep : ∀ k, k < W.heap.size → (∀ r c v, r ∈ keys ws → h r = some c → ρ r = some v → blk v ≠ some k) → W'.heap[k]? = W.heap[k]?
 owned : ∀ r c v b, upd h ws r = some c → ρ' r = some v → blk v = some b → (∃ r0 c0 v0, (r0 = r ∨ r0 ∈ keys ws) ∧ h r0 = some c0 ∧ ρ r0 = some v0 ∧ blk v0 = some b) ∨ W.heap.size ≤ b
section
variable {C : Ctx} {gl : List (Nat × SVal)} {W W' : World} {R R' : Nat → Prop} {ρ ρ' : Nat → Option Value} {h : Nat → Option Cont}
theorem HoldC.lt {v : Value} {c : Cont} (hc : HoldC C W R ρ v c) {b : Nat} (hb : blk v = some b) : b < W.heap.size := by
 cases c with
 | cells l => obtain ⟨b', vs, T, rfl, hh, _⟩ := hc; simp [blk] at hb; subst hb; exact (Array.getElem?_eq_some_iff.1 hh).1
 | recs t l =>
  obtain ⟨e, vs, ho, _⟩ := hc
  exact (ho.lt b (by cases v <;> simp [blk] at hb <;> first | (rename_i a _ _; cases a <;> simp_all [Value.ownBlock]) | (rename_i a; cases a <;> simp_all [Value.ownBlock]; rcases ho.2 with ⟨h, _⟩ | ⟨_, _, _, h, _⟩ <;> cases h) | (rcases ho.2 with ⟨h, _⟩ | ⟨_, _, _, h, _⟩ <;> cases h))).2
 | row w l =>
  obtain ⟨e, vs, n, ho, _⟩ := hc
  exact (ho.lt b (by cases v <;> simp [blk] at hb <;> first | (rename_i a _ _; cases a <;> simp_all [Value.ownBlock]) | (rename_i a; cases a <;> simp_all [Value.ownBlock]; rcases ho.2 with ⟨h, _⟩ | ⟨_, _, _, h, _⟩ <;> cases h) | (rcases ho.2 with ⟨h, _⟩ | ⟨_, _, _, h, _⟩ <;> cases h))).2
 | strMap m => obtain ⟨b', es, cl, rfl, hh, _⟩ := hc; simp [blk] at hb; subst hb; exact (Array.getElem?_eq_some_iff.1 hh).1
 | intMap m => obtain ⟨b', es, cl, rfl, hh, _⟩ := hc; simp [blk] at hb; subst hb; exact (Array.getElem?_eq_some_iff.1 hh).1
 | gmap k t m => obtain ⟨b', es, cl, rfl, hh, _⟩ := hc; simp [blk] at hb; subst hb; exact (Array.getElem?_eq_some_iff.1 hh).1
 | opn k t l i x =>
  obtain ⟨e, vs, ho, _⟩ := hc
  exact (ho.lt b (by cases v <;> simp [blk] at hb <;> first | (rename_i a _ _; cases a <;> simp_all [Value.ownBlock]) | (rename_i a; cases a <;> simp_all [Value.ownBlock]; rcases ho.2 with ⟨h, _⟩ | ⟨_, _, _, h, _⟩ <;> cases h) | (rcases ho.2 with ⟨h, _⟩ | ⟨_, _, _, h, _⟩ <;> cases h))).2
theorem own_keep {e size : Nat} {v : Value} {n : Nat} {xs : List Value} (ho : W.ownsRow 0 e size v n xs) (hk : ∀ b, blk v = some b → W'.heap[b]? = W.heap[b]?) : W'.ownsRow 0 e size v n xs := by
 refine ⟨ho.1, ?_⟩
 rcases ho.2 with hn | ⟨g, cap, cur, rfl, hb, hg, r⟩
 ·exact .inl hn
 ·exact .inr ⟨g, cap, cur, rfl, hb, by rw [hk g rfl]; exact hg, r⟩
theorem HoldC.mono {v : Value} {c : Cont} (hc : HoldC C W R ρ v c) (hR : ∀ b, R b → R' b) (hW : ∀ b, R b → W'.heap[b]? = W.heap[b]?) (hρ : ∀ r v, ρ r = some v → ρ' r = some v)
  (hk : ∀ b, blk v = some b → W'.heap[b]? = W.heap[b]?) : HoldC C W' R' ρ' v c := by
 cases c with
 | cells l => obtain ⟨b', vs, T, rfl, hh, hd⟩ := hc; exact ⟨b', vs, T, rfl, by rw [hk b' rfl]; exact hh, hd.mono hR hW hρ⟩
 | recs t l => obtain ⟨e, vs, ho, hd⟩ := hc; exact ⟨e, vs, own_keep ho hk, hd.mono hR hW hρ⟩
 | row w l => obtain ⟨e, vs, n, ho, hd, h0⟩ := hc; exact ⟨e, vs, n, own_keep ho hk, hd.mono hR hW hρ, h0⟩
 | strMap m => obtain ⟨b', es, cl, rfl, hh, hd⟩ := hc; exact ⟨b', es, cl, rfl, by rw [hk b' rfl]; exact hh, hd⟩
 | intMap m => obtain ⟨b', es, cl, rfl, hh, hd⟩ := hc; exact ⟨b', es, cl, rfl, by rw [hk b' rfl]; exact hh, hd⟩
 | gmap k t m => obtain ⟨b', es, cl, rfl, hh, he, hd⟩ := hc; exact ⟨b', es, cl, rfl, by rw [hk b' rfl]; exact hh, he, DenA.mono hR hW hρ hd⟩
 | opn k t l i x => obtain ⟨e, vs, ho, hd, h0⟩ := hc; exact ⟨e, vs, own_keep ho hk, hd.mono hR hW hρ, h0⟩
theorem Base.mono (B : Base C gl W R) (hR : ∀ b, R b → R' b) (hin : ∀ b, R' b → b < W'.heap.size) (hW : ∀ b, R b → W'.heap[b]? = W.heap[b]?) : Base C gl W' R' :=
 ⟨hin, B.inj, B.types, B.spot, fun n hn => let ⟨h1, cs, T, h2⟩ := B.sent n hn; ⟨hR _ h1, cs, T, by rw [hW _ h1]; exact h2⟩, fun g s hg => (B.glob g s hg).mono hR hW fun _ _ h => h, fun b o h => ⟨hR _ (B.fix b o h).1, (hW _ (B.fix b o h).1).trans (B.fix b o h).2⟩⟩
theorem Trans.gen (M : Mem C gl W R ρ h) {ws : List (Nat × Option Cont)}
  (os : W'.os = W.os) (tape : W'.tape = W.tape) (output : W'.output = W.output) (size : W.heap.size ≤ W'.heap.size)
  (hρ : ∀ r v, ρ r = some v → ρ' r = some v) (hρn : ∀ r v, ρ' r = some v → ρ r = some v ∨ (ρ r = none ∧ r ∈ keys ws))
  (keep : ∀ k, k < W.heap.size → (∀ r c v, r ∈ keys ws → h r = some c → ρ r = some v → blk v ≠ some k) → W'.heap[k]? = W.heap[k]?)
  (new : (∀ b, R b → W'.heap[b]? = W.heap[b]?) → ∀ r c, find r ws = some (some c) → ∃ v, ρ' r = some v ∧ HoldC C W' R ρ' v c ∧
   ∀ b, blk v = some b → (∃ r0 c0 v0, r0 ∈ keys ws ∧ h r0 = some c0 ∧ ρ r0 = some v0 ∧ blk v0 = some b) ∨ W.heap.size ≤ b)
  (ap : ∀ r r' c c', find r ws = some (some c) → find r' ws = some (some c') → r = r') : Trans C gl W R ρ h ws W' R ρ' := by
 have kR : ∀ b, R b → W'.heap[b]? = W.heap[b]? := fun b hb => keep b (M.base.inR b hb) fun r c v _ hc hv he => M.off r c v b hc hv he hb
 have kO : ∀ r c v b, find r ws = none → h r = some c → ρ r = some v → blk v = some b → W'.heap[b]? = W.heap[b]? := fun r c v b hf hc hv hb => by
  obtain ⟨v', hv', hh⟩ := M.at_ r c hc
  rw [hv] at hv'; cases hv'
  refine keep b (hh.lt hb) fun r1 c1 v1 hm h1 h2 h3 => ?_
  have := M.apart r1 r c1 c v1 v b h1 hc h2 hv h3 hb
  subst this
  exact find_none hf hm
 have own : ∀ r c v b, upd h ws r = some c → ρ' r = some v → blk v = some b →
   (find r ws = some (some c) ∧ ((∃ r0 c0 v0, r0 ∈ keys ws ∧ h r0 = some c0 ∧ ρ r0 = some v0 ∧ blk v0 = some b) ∨ W.heap.size ≤ b)) ∨ (find r ws = none ∧ h r = some c ∧ ρ r = some v) := by
  intro r c v b hu hv hb
  unfold upd at hu
  cases hf : find r ws with
  | some c0 =>
   rw [hf] at hu; simp only at hu; subst hu
   obtain ⟨v', hv', _, hh⟩ := new kR r c hf
   rw [hv] at hv'; cases hv'
   exact .inl ⟨rfl, hh b hb⟩
  | none =>
   rw [hf] at hu; simp only at hu
   obtain ⟨v', hv', _⟩ := M.at_ r c hu
   have := hρ _ _ hv'
   rw [hv] at this; cases this
   exact .inr ⟨rfl, hu, hv'⟩
 refine ⟨⟨M.base.mono (fun _ h => h) (fun b hb => Nat.lt_of_lt_of_le (M.base.inR b hb) size) kR, ?_, ?_, ?_⟩, os, tape, output, size, fun _ h => h, fun _ h => .inl h, hρ, hρn, keep, ?_⟩
 ·intro r c hu
  unfold upd at hu
  cases hf : find r ws with
  | some c0 =>
   rw [hf] at hu; simp only at hu; subst hu
   obtain ⟨v, hv, hh, _⟩ := new kR r c hf
   exact ⟨v, hv, hh⟩
  | none =>
   rw [hf] at hu; simp only at hu
   obtain ⟨v, hv, hh⟩ := M.at_ r c hu
   exact ⟨v, hρ _ _ hv, hh.mono (fun _ h => h) kR hρ fun b hb => kO r c v b hf hu hv hb⟩
 ·intro r r' c c' v v' b h1 h2 h3 h4 h5 h6
  rcases own r c v b h1 h3 h5 with ⟨f1, o1⟩ | ⟨f1, o1, o1'⟩ <;> rcases own r' c' v' b h2 h4 h6 with ⟨f2, o2⟩ | ⟨f2, o2, o2'⟩
  ·exact ap _ _ _ _ f1 f2
  ·rcases o1 with ⟨r0, c0, v0, k1, k2, k3, k4⟩ | hs
   ·have := M.apart r0 r' c0 c' v0 v' b k2 o2 k3 o2' k4 h6
    subst this; exact absurd k1 (find_none f2)
   ·obtain ⟨v'', hv'', hh⟩ := M.at_ r' c' o2
    rw [o2'] at hv''; cases hv''
    have := hh.lt h6; omega
  ·rcases o2 with ⟨r0, c0, v0, k1, k2, k3, k4⟩ | hs
   ·have := M.apart r0 r c0 c v0 v b k2 o1 k3 o1' k4 h5
    subst this; exact absurd k1 (find_none f1)
   ·obtain ⟨v'', hv'', hh⟩ := M.at_ r c o1
    rw [o1'] at hv''; cases hv''
    have := hh.lt h5; omega
  ·exact M.apart r r' c c' v v' b o1 o2 o1' o2' h5 h6
 ·intro r c v b h1 h2 h3 hR
  rcases own r c v b h1 h2 h3 with ⟨f1, o1⟩ | ⟨f1, o1, o1'⟩
  ·rcases o1 with ⟨r0, c0, v0, k1, k2, k3, k4⟩ | hs
   ·exact M.off r0 c0 v0 b k2 k3 k4 hR
   ·have := M.base.inR b hR; omega
  ·exact M.off r c v b o1 o1' h3 hR
 ·intro r c v b h1 h2 h3
  rcases own r c v b h1 h2 h3 with ⟨f1, o1⟩ | ⟨f1, o1, o1'⟩
  ·rcases o1 with ⟨r0, c0, v0, k1, k2, k3, k4⟩ | hs
   ·exact .inl ⟨r0, c0, v0, .inr k1, k2, k3, k4⟩
   ·exact .inr hs
  ·exact .inl ⟨r, c, v, .inl rfl, o1, o1', h3⟩
theorem Trans.refl (M : Mem C gl W R ρ h) : Trans C gl W R ρ h [] W R ρ :=
 Trans.gen M rfl rfl rfl (Nat.le_refl _) (fun _ _ h => h) (fun _ _ h => .inl h) (fun _ _ _ => rfl) (fun _ _ _ h => by cases h) (fun _ _ _ _ h => by cases h)
def bindN (ρ : Nat → Option Value) (n : Nat) (v : Value) : Nat → Option Value := fun r => if r = n then some v else ρ r
theorem bindN_mono {n : Nat} {v : Value} (hn : ρ n = none) : ∀ r u, ρ r = some u → bindN ρ n v r = some u := fun r u hu => by
 unfold bindN; split
 ·rename_i e; subst e; rw [hn] at hu; cases hu
 ·exact hu
theorem bindN_new {n : Nat} {v : Value} {c : Option Cont} (hn : ρ n = none) {ws : List (Nat × Option Cont)} (hk : n ∈ keys ws) : ∀ r u, bindN ρ n v r = some u → ρ r = some u ∨ (ρ r = none ∧ r ∈ keys ws) := fun r u hu => by
 unfold bindN at hu; split at hu
 ·rename_i e; subst e; exact .inr ⟨hn, hk⟩
 ·exact .inl hu
theorem bindN_at {n : Nat} {v : Value} : bindN ρ n v n = some v := by simp [bindN]
theorem find_self {α : Type} {n : Nat} {a : α} {l : List (Nat × α)} : find n ((n, a) :: l) = some a := by simp [find, Nat.beq_refl]
theorem find_one {α : Type} {n r : Nat} {a b : α} (h : find r [(n, a)] = some b) : r = n ∧ b = a := by
 simp only [find] at h
 split at h
 ·rename_i e; exact ⟨(Nat.eq_of_beq_eq_true e).symm, by cases h; rfl⟩
 ·cases h
theorem Trans.new (M : Mem C gl W R ρ h) {n : Nat} (hn : ρ n = none) (o : Obj) (v : Value) (c : Cont) (hv : blk v = some W.heap.size)
  (hc : (∀ b, R b → (W.alloc o).heap[b]? = W.heap[b]?) → HoldC C (W.alloc o) R (bindN ρ n v) v c) : Trans C gl W R ρ h [(n, some c)] (W.alloc o) R (bindN ρ n v) := by
 refine Trans.gen M rfl rfl rfl (by simp) (bindN_mono hn) (bindN_new (c := none) hn (by simp [keys])) (fun k hk _ => Below.heap_alloc W o k hk) (fun kR r c' hf => ?_) (fun r r' c1 c2 h1 h2 => ?_)
 ·obtain ⟨rfl, e⟩ := find_one hf
  cases e
  exact ⟨v, bindN_at, hc kR, fun b hb => .inr (by rw [hv] at hb; cases hb; exact Nat.le_refl _)⟩
 ·rw [(find_one h1).1, (find_one h2).1]
theorem Trans.write (M : Mem C gl W R ρ h) {r : Nat} {c0 c : Cont} {v : Value} {b : Nat} (hr : h r = some c0) (hv : ρ r = some v) (hb : blk v = some b)
  (os : W'.os = W.os) (tape : W'.tape = W.tape) (output : W'.output = W.output) (size : W.heap.size = W'.heap.size) (keep : ∀ k, k ≠ b → W'.heap[k]? = W.heap[k]?)
  (hc : (∀ b, R b → W'.heap[b]? = W.heap[b]?) → HoldC C W' R ρ v c) : Trans C gl W R ρ h [(r, some c)] W' R ρ := by
 refine Trans.gen M os tape output (Nat.le_of_eq size) (fun _ _ h => h) (fun _ _ h => .inl h) (fun k hk hx => keep k fun e => hx r c0 v (by simp [keys]) hr hv (by rw [hb, e])) (fun kR q c' hf => ?_) (fun r r' c1 c2 h1 h2 => ?_)
 ·obtain ⟨rfl, e⟩ := find_one hf
  cases e
  exact ⟨v, hv, hc kR, fun b' hb' => .inl ⟨q, c0, v, by simp [keys], hr, hv, hb'⟩⟩
 ·rw [(find_one h1).1, (find_one h2).1]
end
end Go.Sy
