/- Words that the proofs use, part 14. -/
import Derived.Test.YtacmmedhjebfjaaGreatDoorQE13
import Derived.MakeChecks
set_option linter.unusedVariables false
set_option linter.unusedSimpArgs false
namespace Go.Sy
open Go.ChangeShapes Go.RowKit Go.WideShapes
structure Snt where
 name : String
 g : Nat
 n : Int
 text : List UInt8
def Snt.datum (nm : String) (x : Snt) : String × DataW Unit := (x.name, .iface nm (.ptr (.agg [.lit (.string x.text)])))
def adr (W : World) (g : Nat) : Addr := match W.cell? ⟨g, 0, none⟩ with
 | some (.iface _ (.pointer (some a))) => a
 | _ => ⟨0, 0, none⟩
theorem spot_none {W : World} {a : Addr} {v : Value} (h : W.cell? a = some v) : a.spot = none ∧ a.block < W.heap.size := by
 unfold World.cell? at h
 split at h
 ·rename_i hb
  split at h
  ·cases h
  ·rename_i hs; exact ⟨by simpa using hs, (Array.getElem?_eq_some_iff.1 hb).1⟩
 ·cases h
structure ErrTypes (P : Program) (ti tp te ts : TypeId) (nm : String) : Prop where
 hi : ∃ ms, P.underlying ti = some (.interface ms)
 row : ∀ u, P.typeName? 3 u = some nm → u = tp
 hp : P.underlying tp = some (.pointer te)
 he : ∃ f : Field, P.underlying te = some (.struct #[f]) ∧ f.type = ts ∧ f.offset = 0
 hs : P.underlying ts = some .string
 ce : P.cellsOf te = 1
 cs : P.cellsOf ts = 1
section
variable {P : Program} {W W' : World}
def Rowed (P : Program) (W : World) (ps : List MemPlace) : Prop := ∀ b off, MemPlace.cell b off ∈ ps →
  (∃ c t, W.heap[b]? = some (.cells c t (0, 0))) ∧ ∀ u v, W.cell? ⟨b, off, none⟩ = some (.iface u v) → Value.okWide P W .any 0 u v
theorem sents_of {ti tp te ts : TypeId} {nm : String} (T : ErrTypes P ti tp te ts nm) : ∀ {L : List Snt} {ps : List MemPlace},
  (∀ x ∈ L, P.globalNamed x.name = some x.g ∧ (P.globals[x.g]?).map (·.type) = some ti) → DataW.LaidVars P W (L.map (Snt.datum nm)) ps → Rowed P W ps → ps.Nodup →
  (∀ x ∈ L, W.cell? ⟨x.g, 0, none⟩ = some (.iface tp (.pointer (some (adr W x.g)))) ∧ (adr W x.g).spot = none ∧ MemPlace.cell (adr W x.g).block (adr W x.g).off ∈ ps) ∧
   L.Pairwise fun x y => adr W x.g ≠ adr W y.g
 | [], ps, _, _, _, _ => ⟨fun x hx => by simp at hx, .nil⟩
 | x :: L, ps, hg, ⟨g, t, cs, fuel, p, q, e1, e2, e3, e4, e5, e6⟩, hr, hn => by
  obtain ⟨g1, g2⟩ := hg x List.mem_cons_self
  obtain rfl := Option.some.inj (g1.symm.trans e1)
  obtain rfl := Option.some.inj (g2.symm.trans e2)
  obtain ⟨ms, hi⟩ := T.hi
  obtain ⟨f, he, hft, hfo⟩ := T.he
  obtain ⟨cl⟩ := cs
  have ok : ∀ u v, cl = [.iface u v] → Value.okWide P W .any 0 u v := fun u v e => by
   subst e
   have hmem : MemPlace.cell x.g 0 ∈ ps := by rw [e6]; simp [MemPlace.row]
   exact (hr x.g 0 hmem).2 u v (by simpa using World.var?_cell e1 e3 0)
  obtain ⟨a, s, rfl, hc, _, _, hp⟩ := errorString_of_trod hi T.row T.hp he hft hfo T.hs T.ce T.cs e4 ok
  have hcell : W.cell? ⟨x.g, 0, none⟩ = some (.iface tp (.pointer (some a))) := by simpa using World.var?_cell e1 e3 0
  have ha : adr W x.g = a := by unfold adr; rw [hcell]
  have hpa : p = [.cell a.block a.off] := by rw [hp]; simp [MemPlace.row]
  rw [hpa] at e6
  have hq : ∀ y ∈ q, y ∈ ps := fun y hy => by rw [e6]; simp [hy]
  have hnq : q.Nodup ∧ MemPlace.cell a.block a.off ∉ q := by
   rw [e6] at hn
   have h1 := List.nodup_append.1 hn
   refine ⟨h1.2.1, fun hm => ?_⟩
   exact h1.2.2 _ (by simp) _ hm rfl
  obtain ⟨i1, i2⟩ := sents_of T (fun y hy => hg y (List.mem_cons_of_mem _ hy)) e5 (fun b off hb => hr b off (hq _ hb)) hnq.1
  refine ⟨fun y hy => ?_, List.pairwise_cons.2 ⟨fun y hy e => ?_, i2⟩⟩
  ·rcases List.mem_cons.1 hy with rfl | hy
   ·rw [ha]; exact ⟨hcell, (spot_none hc).1, by rw [e6]; simp⟩
   ·obtain ⟨j1, j2, j3⟩ := i1 y hy
    exact ⟨j1, j2, hq _ j3⟩
  ·rw [ha] at e
   have := (i1 y hy).2.2
   rw [← e] at this
   exact hnq.2 this
theorem pair_ne {α : Type} {r : α → α → Prop} (hs : ∀ x y, r x y → r y x) : ∀ {l : List α}, l.Pairwise r → ∀ x ∈ l, ∀ y ∈ l, x = y ∨ r x y
 | [], _, x, hx, _, _ => by simp at hx
 | a :: l, h, x, hx, y, hy => by
  obtain ⟨h1, h2⟩ := List.pairwise_cons.1 h
  rcases List.mem_cons.1 hx with ex | mx <;> rcases List.mem_cons.1 hy with ey | my
  ·exact .inl (ex.trans ey.symm)
  ·exact .inr (ex ▸ h1 _ my)
  ·exact .inr (ey ▸ hs _ _ (h1 _ mx))
  ·exact pair_ne hs h2 x mx y my
def eaOf (L : List Snt) (W : World) (n : Int) : Addr := match L.find? (fun x => decide (x.n = n)) with
 | some x => adr W x.g
 | none => ⟨0, 0, none⟩
def hasOf (L : List Snt) (n : Int) : Prop := ∃ x ∈ L, x.n = n
theorem eaOf_mem {L : List Snt} (hn : (L.map (·.n)).Nodup) {x : Snt} (hx : x ∈ L) : eaOf L W x.n = adr W x.g := by
 unfold eaOf
 cases h : L.find? (fun y => decide (y.n = x.n)) with
 | none => have := List.find?_eq_none.1 h x hx; simp at this
 | some y =>
  have h1 := List.mem_of_find?_eq_some h
  have h2 : y.n = x.n := by simpa using List.find?_some h
  have : y = x := by
   rcases pair_ne (r := fun a b : Snt => a.n ≠ b.n) (fun _ _ h e => h e.symm) (List.pairwise_map.1 hn) y h1 x hx with h | h
   ·exact h
   ·exact absurd h2 h
  rw [this]
abbrev earOf (L : List Snt) (W : World) : Ear := ⟨eaOf L W, fun _ => none⟩
theorem base_of {ti tp te ts tA : TypeId} {nm : String} (T : ErrTypes P ti tp te ts nm) (hA : tp ≠ tA) {L : List Snt} (hg : ∀ x ∈ L, P.globalNamed x.name = some x.g ∧ (P.globals[x.g]?).map (·.type) = some ti)
  (hn : (L.map (·.n)).Nodup) (h : laidMet P (L.map (Snt.datum nm)) W) {gl : List (Nat × SVal)} (hgl : ∀ p ∈ gl, ∃ x ∈ L, p = (x.g, .rop [.err (.bare x.n)])) {fx : Nat → Option Obj} (hfx : ∀ b o, fx b = some o → W.heap[b]? = some o) :
  Base ⟨eaOf L W, tp, tA, hasOf L, fx⟩ gl W (fun b => b < W.heap.size) := by
 obtain ⟨ps, h1, h2, h3⟩ := h
 obtain ⟨s1, s2⟩ := sents_of T hg h1 h3 h2
 refine ⟨fun _ h => h, ?_, hA, ?_, ?_, ?_, fun b o h => ⟨(Array.getElem?_eq_some_iff.1 (hfx b o h)).1, hfx b o h⟩⟩
 ·rintro n m ⟨x, hx, rfl⟩ ⟨y, hy, rfl⟩ e
  simp only [eaOf_mem hn hx, eaOf_mem hn hy] at e
  rcases pair_ne (r := fun x y : Snt => adr W x.g ≠ adr W y.g) (fun _ _ h e => h e.symm) s2 x hx y hy with h | h
  ·rw [h]
  ·exact absurd e h
 ·rintro n ⟨x, hx, rfl⟩
  simp only [eaOf_mem hn hx]
  exact (s1 x hx).2.1
 ·rintro n ⟨x, hx, rfl⟩
  simp only [eaOf_mem hn hx]
  obtain ⟨c, t, hb⟩ := (h3 _ _ (s1 x hx).2.2).1
  exact ⟨(Array.getElem?_eq_some_iff.1 hb).1, c, t, hb⟩
 ·intro g s hs
  obtain ⟨x, hx, e⟩ := hgl _ (find_mem hs)
  obtain ⟨rfl, rfl⟩ := Prod.mk.inj e
  have hd : Den ⟨eaOf L W, tp, tA, hasOf L, fx⟩ W (fun b => b < W.heap.size) (fun _ => none) (.err (.bare x.n)) (.iface tp (.pointer (some (adr W x.g)))) := by
   have := Den.bare (C := ⟨eaOf L W, tp, tA, hasOf L, fx⟩) (W := W) (R := fun b => b < W.heap.size) (ρ := fun _ => none) x.n ⟨x, hx, rfl⟩
   simp only [eaOf_mem hn hx] at this
   exact this
  have hc := (s1 x hx).1
  refine .rop _ _ x.g 0 (spot_none hc).2 (.one _ _ _ _ rfl rfl hd .nil) fun j v hv => ?_
  cases j with
  | zero => simp at hv; subst hv; exact hc
  | succ j => simp at hv
variable {C : Ctx} {gl : List (Nat × SVal)} {R R' : Nat → Prop} {ρ ρ' : Nat → Option Value}
theorem Base.mem (B : Base C gl W R) : Mem C gl W R (fun _ => none) none' :=
 ⟨B, fun _ _ h => (by cases h), fun _ _ _ _ _ _ _ h => (by cases h), fun _ _ _ _ h => (by cases h)⟩
theorem Trans.below {ws : List (Nat × Option Cont)} (T : Trans C gl W R ρ none' ws W' R' ρ') : Below W.heap.size W W' :=
 ⟨T.os, T.tape, T.output, T.size, fun k hk => T.keep k hk fun r c v _ h => by cases h⟩
theorem does_at {f : Nat} {k : List SVal → Nat → Acc ORes} (K : ConOk P C gl f k) (B : Base C gl W R) {args : List SVal} {vs : List Value} (hA : DenA C W R (fun _ => none) args vs) {r : ORes} (hr : k args 0 = .ret r) (hv : ∀ q, r.vc = some q → q) :
  Calls P f vs.toArray W fun e W' => ∃ v R' ρ', e = .returned v ∧ Below W.heap.size W W' ∧ Den C W' R' ρ' r.v v :=
 (K.does (l := []) (l' := []) B.mem hA (next := 0) (r := r) (by rw [hr]; rfl) hv (fun _ _ => rfl)).mono fun e W' ⟨v, R', ρ', h1, h2, h3⟩ => ⟨v, R', ρ', h1, h2.below, h3⟩
end
section
variable {H : Type} {enc : TypeId × Value → H} {P : Program} {W W' : World}
theorem trodAll_stays {sp : Nat → Bool} (hl : laidOutB P = true) (hb : Below W.heap.size W W') : ∀ {ts : List TypeId} {vs : List Value} {ds : List (DataW H)} {ps : List MemPlace}, (∀ t ∈ ts, P.readableRec t = true ∧ t < P.types.size) →
  DataW.TrodAll enc P W 0 (fun _ => true) true ts vs ds ps → (∀ p ∈ ps, p.block < W.heap.size) → (∀ p ∈ ps, sp p.block = true) → DataW.TrodAll enc P W' 0 sp true ts vs ds ps
 | [], vs, ds, ps, _, h, _, _ => by
  obtain ⟨rfl, rfl, rfl⟩ := trodAll_nil h
  exact rfl
 | t :: ts, vs, ds, ps, ht, h, hp, hs => by
  obtain ⟨v, vs', d, ds', p, q, rfl, rfl, rfl, h1, h2⟩ := trodAll_cons h
  obtain ⟨r1, r2⟩ := ht t List.mem_cons_self
  exact ⟨p, q, WideElems.Trod_stays hl r1 r2 h1 (fun x hx => hb.same (hp x (List.mem_append_left _ hx))) (fun x hx => hs x (List.mem_append_left _ hx)),
   trodAll_stays hl hb (fun u hu => ht u (List.mem_cons_of_mem _ hu)) h2 (fun x hx => hp x (List.mem_append_right _ hx)) (fun x hx => hs x (List.mem_append_right _ hx)), rfl⟩
theorem post_true {fn : Func} {s : ChangeSpec} {fresh handsOn : Bool} {args : Array Value} {ds gs : List (DataW H)} {before : List MemPlace} {tb : TypeId} (hl : laidOutB P = true)
  (hts : ∀ t ∈ fn.params.toList, P.readableRec t = true ∧ t < P.types.size) (hvars : s.vars = []) (hrt : fn.resultTypes = #[tb]) (hb : P.underlying tb = some .bool)
  (hs : s.fn H ds = { results := [.lit (.bool true)], args := ds }) (hW : DataW.Whole enc P fn.params.toList s.vars false W args.toList ds gs before) (hB : Below W.heap.size W W') :
  s.post enc P fn false fresh handsOn false W args (.bool true) W' := by
 have hW' := hW
 have hlt := hW.lt
 obtain ⟨p, q, h1, h2, rfl, h4, h5⟩ := hW
 rw [hvars] at h2
 obtain ⟨rfl, rfl⟩ := trodVars_none h2
 have hsp : s.fn H (ds ++ []) = { results := [.lit (.bool true)], args := ds } := by rw [List.append_nil]; exact hs
 refine ⟨ds, [], p ++ [], [], p, [], hW', ?_, ?_, ?_, World.keptBut_mono (fun x hx => ⟨hx, .inr (.inl (by simpa using hx))⟩) (hB.frame (· ∈ p ++ [])), fun h => by cases h⟩
 ·rw [hsp, hrt]
  exact trodAll_mk1 (shut_bool hb true)
 ·rw [hsp]
  have hlt' : ∀ x ∈ p, x.block < W.heap.size := fun x hx => hlt x (by simpa using hx)
  exact trodAll_stays hl hB hts h1 hlt' (fun x hx => by simpa using hlt' x hx)
 ·rw [hsp, hvars]; rfl
end
end Go.Sy

set_option linter.unusedVariables false
set_option linter.unusedSimpArgs false
namespace Go.Sy
open Go.RowKit
mutual
def namV : SVal → Bool
 | .any | .int .. | .bool _ | .str _ | .nilptr | .nilslice | .nilIface | .nilFunc | .nilmap => true
 | .ptr _ _ | .own _ | .map _ => true
 | .arr t _ _ => pureR t
 | .agg l => namL l
 | .tuple l => namL l
 | .iface _ v => namV v
 | _ => false
def namL : List SVal → Bool
 | [] => true
 | s :: l => namV s && namL l
end
def namC : Option Cont → Bool
 | some (.cells l) => namL l
 | some (.recs t _) => pureR t
 | some (.row _ l) => namL l
 | some (.strMap _) => true
 | some (.intMap _) => true
 | some (.gmap _ _ _) => false
 | some (.opn _ _ _ _ _) => false
 | none => false
def newWs (n k : Nat) : List (Nat × Option Cont) → Bool
 | [] => true
 | (m, c) :: l => Nat.ble n m && Nat.ble (m + 1) (n + k) && namC c && newWs n k l
def borN (ss : List Shp) (k : List SVal → Nat → Acc ORes) : List SVal → Nat → Acc ORes := fun a n =>
 nrmL ss a >>= fun p => hide p.2 (k p.1 n) >>= fun r => match newWs n r.k r.ws && namV r.v with
  | true => .ret r
  | false => .fail "lent"
section
variable {C : Ctx} {gl : List (Nat × SVal)} {W W' : World} {R R' : Nat → Prop} {ρ ρ' : Nat → Option Value} {h : Nat → Option Cont}
mutual
theorem namV_ok : ∀ {s : SVal} {v : Value}, Den C W R ρ s v → namV s = true → Den C W R' ρ s v
 | _, _, .int k n h, _ => .int k n h
 | _, _, .bool b, _ => .bool b
 | _, _, .str s h, _ => .str s h
 | _, _, .nilptr, _ => .nilptr
 | _, _, .nilslice, _ => .nilslice
 | _, _, .nilFunc, _ => .nilFunc
 | _, _, .nilIface, _ => .nilIface
 | _, _, .nilmap, _ => .nilmap
 | _, _, .ptr r off b h, _ => .ptr r off b h
 | _, _, .own r A n cap h, _ => .own r A n cap h
 | _, _, .map r b h, _ => .map r b h
 | _, _, .agg l vs h, hp => .agg l vs (namL_ok h (by unfold namV at hp; exact hp))
 | _, _, .arr t n xs vs h1 h2, hp => .arr t n xs vs h1 (pureL_ok h2 (flat_pure (by unfold namV at hp; exact hp) xs))
 | _, _, .tuple l vs h, hp => .tuple l vs (namA_ok h (by unfold namV at hp; exact hp))
 | _, _, .iface t s v h, hp => .iface t s v (namV_ok h (by unfold namV at hp; exact hp))
 | _, _, .any v, _ => .any v
 | _, _, .eptr r w i j b n cap h h1 h2, hp => (by unfold namV at hp; cases hp)
 | _, _, .aptr r off w n i j b h h1 h2, hp => (by unfold namV at hp; cases hp)
 | _, _, .rop l vs b off h1 h2 h3, hp => (by unfold namV at hp; cases hp)
 | _, _, .ropT l vs b off h1 h2 h3, hp => (by unfold namV at hp; cases hp)
 | _, _, .ropF l, hp => (by unfold namV at hp; cases hp)
 | _, _, .view t r k n A A' m cap cap' h h1 h2 h3 h4 h5, hp => (by unfold namV at hp; cases hp)
 | _, _, .ro t l A cap vs h1 h2 h3 h4 h5, hp => (by unfold namV at hp; cases hp)
 | _, _, .roN t l A cap vs h1 h2 h3 h4, hp => (by unfold namV at hp; cases hp)
 | _, _, .func f l vs h, hp => (by unfold namV at hp; cases hp)
 | _, _, .bound f l vs h, hp => (by unfold namV at hp; cases hp)
 | _, _, .fine, hp => (by unfold namV at hp; cases hp)
 | _, _, .bare n h, hp => (by unfold namV at hp; cases hp)
 | _, _, .placed n p b off h1 h2 h3 h4 h5, hp => (by unfold namV at hp; cases hp)
 | _, _, .atp n p b off h1 h2 h3 h4 h5, hp => (by unfold namV at hp; cases hp)
 | _, _, .atnil e h, hp => (by unfold namV at hp; cases hp)
theorem namL_ok : ∀ {l : List SVal} {vs : List Value}, DenL C W R ρ l vs → namL l = true → DenL C W R' ρ l vs
 | _, _, .nil, _ => .nil
 | _, _, .one s v l vs h1 h2 h3 h4, hp => by
  unfold namL at hp
  rw [Bool.and_eq_true] at hp
  exact .one s v l vs h1 h2 (namV_ok h3 hp.1) (namL_ok h4 hp.2)
 | _, _, .arr t n xs us l vs h1 h2 h3, hp => by
  unfold namL at hp
  rw [Bool.and_eq_true] at hp
  exact .arr t n xs us l vs h1 (pureL_ok h2 (flat_pure (by have := hp.1; unfold namV at this; exact this) xs)) (namL_ok h3 hp.2)
theorem namA_ok : ∀ {l : List SVal} {vs : List Value}, DenA C W R ρ l vs → namL l = true → DenA C W R' ρ l vs
 | _, _, .nil, _ => .nil
 | _, _, .cons s v l vs h1 h2, hp => by
  unfold namL at hp
  rw [Bool.and_eq_true] at hp
  exact .cons s v l vs (namV_ok h1 hp.1) (namA_ok h2 hp.2)
end
theorem namC_ok {v : Value} {c : Cont} (hc : HoldC C W R ρ v c) (hn : namC (some c) = true) : HoldC C W R' ρ v c := by
 cases c with
 | cells l => obtain ⟨b, vs, T, e, hh, hl⟩ := hc; exact ⟨b, vs, T, e, hh, namL_ok hl hn⟩
 | recs t l => obtain ⟨e, vs, ho, hl⟩ := hc; exact ⟨e, vs, ho, pureL_ok hl (flat_pure hn l)⟩
 | row w l => obtain ⟨e, vs, n, ho, hl, h0⟩ := hc; exact ⟨e, vs, n, ho, namL_ok hl hn, h0⟩
 | strMap m => exact hc
 | intMap m => exact hc
 | gmap k t m => cases hn
 | opn k t l i x => cases hn
theorem newWs_at {n k : Nat} : ∀ {ws : List (Nat × Option Cont)}, newWs n k ws = true → (∀ m ∈ keys ws, n ≤ m ∧ m < n + k) ∧ ∀ m c, find m ws = some c → namC c = true
 | [], _ => ⟨(fun m hm => by cases hm), fun m c h => by cases h⟩
 | (m, c) :: l, h => by
  unfold newWs at h
  simp only [Bool.and_eq_true] at h
  obtain ⟨⟨⟨h1, h2⟩, h3⟩, h4⟩ := h
  obtain ⟨g1, g2⟩ := newWs_at h4
  refine ⟨fun x hx => ?_, fun x c' hf => ?_⟩
  ·simp only [keys, List.map_cons, List.mem_cons] at hx
   rcases hx with rfl | hx
   ·exact ⟨Nat.le_of_ble_eq_true h1, Nat.le_of_ble_eq_true h2⟩
   ·exact g1 x hx
  ·simp only [find] at hf
   split at hf
   ·cases hf; exact h3
   ·exact g2 x c' hf
theorem Trans.lend (M : Mem C gl W R ρ h) {K : List Nat} (hK : ∀ q ∈ K, ∃ c, h q = some c) {ws : List (Nat × Option Cont)} (hnew : ∀ m ∈ keys ws, ρ m = none) (hnam : ∀ m c, find m ws = some c → namC c = true)
  (T : Trans C gl W (RK K ρ R) ρ (without h K) ws W' R' ρ') : Trans C gl W R ρ h ws W' R ρ' := by
 have vac : ∀ {r c v}, r ∈ keys ws → ρ r = some v → c → False := fun {r c v} hr hv _ => by rw [hnew r hr] at hv; cases hv
 have keep : ∀ k, k < W.heap.size → W'.heap[k]? = W.heap[k]? := fun k hk => T.keep k hk fun r c v h1 h2 h3 => (by rw [hnew r h1] at h3; cases h3)
 have kR : ∀ b, R b → W'.heap[b]? = W.heap[b]? := fun b hb => keep b (M.base.inR b hb)
 have one : ∀ {r c v b}, upd h ws r = some c → ρ' r = some v → blk v = some b → (find r ws = some (some c) ∧ W.heap.size ≤ b) ∨ (find r ws = none ∧ h r = some c ∧ ρ r = some v) := fun {r c v b} hu hv hb => by
  unfold upd at hu
  cases hf : find r ws with
  | some c0 =>
   rw [hf] at hu; simp only at hu; subst hu
   have hu' : upd (without h K) ws r = some c := by unfold upd; rw [hf]
   rcases T.owned r c v b hu' hv hb with ⟨r0, c0, v0, h1, h2, h3, h4⟩ | hs
   ·exfalso
    rcases h1 with rfl | h1
    ·exact vac (find_key hf) h3 True.intro
    ·exact vac h1 h3 True.intro
   ·exact .inl ⟨rfl, hs⟩
  | none =>
   rw [hf] at hu; simp only at hu
   obtain ⟨v', hv', _⟩ := M.at_ r c hu
   have := T.ρm _ _ hv'
   rw [hv] at this; cases this
   exact .inr ⟨rfl, hu, hv'⟩
 refine ⟨⟨M.base.mono (fun _ h => h) (fun b hb => Nat.lt_of_lt_of_le (M.base.inR b hb) T.size) kR, fun r c hu => ?_, fun r r' c c' v v' b h1 h2 h3 h4 h5 h6 => ?_, fun r c v b h1 h2 h3 hR => ?_⟩, T.os, T.tape, T.output, T.size, fun _ h => h, fun _ h => .inl h, T.ρm, T.ρn, fun k hk _ => keep k hk, fun r c v b h1 h2 h3 => ?_⟩
 ·unfold upd at hu
  cases hf : find r ws with
  | some c0 =>
   rw [hf] at hu; simp only at hu; subst hu
   have hu' : upd (without h K) ws r = some c := by unfold upd; rw [hf]
   obtain ⟨v, hv, hh⟩ := T.mem.at_ r c hu'
   exact ⟨v, hv, namC_ok hh (hnam r _ hf)⟩
  | none =>
   rw [hf] at hu; simp only at hu
   obtain ⟨v, hv, hh⟩ := M.at_ r c hu
   exact ⟨v, T.ρm _ _ hv, hh.mono (fun _ h => h) kR T.ρm fun b hb => keep b (hh.lt hb)⟩
 ·rcases one h1 h3 h5 with ⟨f1, o1⟩ | ⟨f1, o1, o1'⟩ <;> rcases one h2 h4 h6 with ⟨f2, o2⟩ | ⟨f2, o2, o2'⟩
  ·have u1 : upd (without h K) ws r = some c := by unfold upd; rw [f1]
   have u2 : upd (without h K) ws r' = some c' := by unfold upd; rw [f2]
   exact T.mem.apart r r' c c' v v' b u1 u2 h3 h4 h5 h6
  ·obtain ⟨v'', hv'', hh⟩ := M.at_ r' c' o2
   rw [o2'] at hv''; cases hv''
   have := hh.lt h6; omega
  ·obtain ⟨v'', hv'', hh⟩ := M.at_ r c o1
   rw [o1'] at hv''; cases hv''
   have := hh.lt h5; omega
  ·exact M.apart r r' c c' v v' b o1 o2 o1' o2' h5 h6
 ·rcases one h1 h2 h3 with ⟨f1, o1⟩ | ⟨f1, o1, o1'⟩
  ·have := M.base.inR b hR; omega
  ·exact M.off r c v b o1 o1' h3 hR
 ·rcases one h1 h2 h3 with ⟨f1, o1⟩ | ⟨f1, o1, o1'⟩
  ·exact .inr o1
  ·exact .inl ⟨r, c, v, .inl rfl, o1, o1', h3⟩
theorem borN_ok {P : Program} {f : Nat} {k : List SVal → Nat → Acc ORes} (K : ConOk P C gl f k) (ss : List Shp) : ConOk P C gl f (borN ss k) where
 call := K.call
 does {W R ρ h args vs next r l l'} M hA hr hv hn := by
  unfold borN at hr
  obtain ⟨⟨a', N⟩, l1, h1, h2⟩ := Acc.bind_ok hr
  obtain ⟨r0, l2, h3, h4⟩ := Acc.bind_ok h2
  split at h4
  ·rename_i hp
   simp only [Acc.run, Except.ok.injEq, Prod.mk.injEq] at h4
   obtain ⟨rfl, _⟩ := h4
   rw [Bool.and_eq_true] at hp
   obtain ⟨g1, g2⟩ := newWs_at hp.1
   obtain ⟨hA', hN⟩ := (nrmL_ok M ss h1 N (fun _ h => h)).2 hA
   obtain ⟨l3, h5⟩ := hide_ok h3 []
   have hnew : ∀ m ∈ keys r0.ws, ρ m = none := fun m hm => by
    have := g1 m hm
    have := hn (m - next) (by omega)
    rwa [show next + (m - next) = m by omega] at this
   refine (K.does (M.freeze hN) hA' h5 hv hn).mono fun e W' ⟨v, R', ρ', e1, T, d⟩ => ⟨v, R, ρ', e1, T.lend M hN hnew g2, namV_ok d hp.2⟩
  ·simp [Acc.run] at h4
end
end Go.Sy

set_option linter.unusedVariables false
set_option linter.unusedSimpArgs false
namespace Go.Sy
open Go.RowKit
def opP : Option Prop → Prop
 | some q => q
 | none => True
def unO (k : List SVal → Nat → Acc ORes) : List SVal → Nat → Acc ORes := fun a n => match a with
 | .ropO c l :: r => k (.rop l :: r) n >>= fun o => .ret { o with vc := some (c = true ∧ opP o.vc) }
 | a => k a n
section
variable {C : Ctx} {gl : List (Nat × SVal)}
theorem unO_ok {P : Program} {f : Nat} {k : List SVal → Nat → Acc ORes} (K : ConOk P C gl f k) : ConOk P C gl f (unO k) where
 call := K.call
 does {W R ρ h args vs next r l l'} M hA hr hv hn := by
  unfold unO at hr
  split at hr
  ·rename_i c s rs
   obtain ⟨r0, l1, h1, h2⟩ := Acc.bind_ok hr
   simp only [Acc.run, Except.ok.injEq, Prod.mk.injEq] at h2
   obtain ⟨rfl, _⟩ := h2
   obtain ⟨hc, hq⟩ := hv _ rfl
   subst hc
   cases hA with
   | cons _ v _ us hd ht =>
    have hd' : Den C W R ρ (.rop s) v := by
     cases hd with
     | ropT _ vs b off g1 g2 g3 => exact .rop _ vs b off g1 g2 g3
    exact K.does (r := r0) M (.cons _ _ _ _ hd' ht) h1 (fun q e => by rw [e] at hq; exact hq) hn
  ·exact K.does M hA hr hv hn
end
end Go.Sy

set_option linter.unusedVariables false
set_option linter.unusedSimpArgs false
namespace Go.Sy
open Go.ChangeShapes Go.RowKit
section
variable {P : Program} {C : Ctx} {W W' : World} {R : Nat → Prop} {ρ : Nat → Option Value}
structure OpensR (P : Program) (e : TypeId) (t : RT) : Prop where
 cells : P.cellsOf e = t.w
 does : ∀ {H : Type} {enc : TypeId × Value → H} {C : Ctx} {W : World} {R : Nat → Prop} {ρ : Nat → Option Value} {base : Nat} {sp : Nat → Bool} {held : Bool} {fuel : Nat} {cs : List Value} {x : DataW H × List MemPlace},
  (∀ b, b < W.heap.size → R b) → DataW.trod enc P W base sp held fuel e cs = some x → ∃ y : t.ty, DenL C W R ρ (t.enc y) cs
theorem Opens.toR {e : TypeId} {t : RT} (h : Opens P e t) : OpensR P e t := ⟨h.cells, fun _ g => h.does g⟩
theorem open_sliceR {ts e : TypeId} {t : RT} (hs : P.underlying ts = some (.slice e)) (he : OpensR P e t) (hR : ∀ b, b < W.heap.size → R b) {H : Type} {enc : TypeId × Value → H} {base : Nat} {sp : Nat → Bool} {held : Bool} {fuel : Nat} {cs : List Value} {x : DataW H × List MemPlace}
  (h : DataW.trod enc P W base sp held fuel ts cs = some x) : ∃ l : List t.ty, ∃ v, cs = [v] ∧ v.oneCell' = true ∧ Den C W R ρ (.ro t l) v := by
 have tw : 0 < t.w := by cases t <;> first | exact Nat.succ_pos _ | decide
 rcases DataW.trod_slice hs h with ⟨rfl, _⟩ | ⟨a, len, cap, elems, rest, n, _, rfl, _, _, h1, h2, h3, h4, _, _⟩
 ·exact ⟨[], _, rfl, rfl, .ro t [] none 0 [] (Nat.le_refl _) (by decide) .nil (fun h => absurd rfl h) (fun _ => rfl)⟩
 ·have rows : ∀ k, k ≤ len → ∃ (l : List t.ty) (vs : List Value), l.length = k ∧ vs.length = k * t.w ∧ DenL C W R ρ (l.flatMap t.enc) vs ∧ ∀ j v, vs[j]? = some v → W.cell? (a.add j) = some v := by
   intro k
   induction k with
   | zero => intro _; exact ⟨[], [], rfl, by simp, .nil, fun j v hv => by simp at hv⟩
   | succ k ih =>
    intro hk
    obtain ⟨l, vs, e1, e2, e3, e4⟩ := ih (by omega)
    have hel := h4 k (by omega)
    rw [List.getElem?_eq_getElem (by omega)] at hel
    obtain ⟨ci, hci, htr⟩ := Option.bind_eq_some_iff.1 hel
    obtain ⟨y, hy⟩ := he.does (C := C) (R := R) (ρ := ρ) hR htr
    obtain ⟨_, hlen, hcell⟩ := World.cells?_some hci
    rw [he.cells] at hlen hcell
    refine ⟨l ++ [y], vs ++ ci, by simp [e1], by simp [e2, hlen, Nat.succ_mul], ?_, fun j v hv => ?_⟩
    ·rw [List.flatMap_append]; exact e3.app (by simpa using hy)
    ·by_cases hj : j < vs.length
     ·rw [List.getElem?_append_left hj] at hv; exact e4 j v hv
     ·rw [List.getElem?_append_right (by omega)] at hv
      have hlt := (List.getElem?_eq_some_iff.1 hv).1
      have := hcell (j - vs.length) (by omega)
      rw [hv] at this
      have hadd : (a.add (k * t.w)).add (j - vs.length) = a.add j := by
       have hj' : j = k * t.w + (j - vs.length) := by omega
       generalize j - vs.length = d at hj' this
       subst hj'
       generalize k * t.w = m
       unfold Addr.add
       by_cases hm : m = 0
       ·subst hm; simp
       ·by_cases hd : d = 0
        ·subst hd; simp
        ·rw [if_neg hm, if_neg hd, if_neg (by omega)]; simp; omega
      rwa [hadd] at this
  obtain ⟨l, vs, e1, e2, e3, e4⟩ := rows len (Nat.le_refl _)
  subst e1
  refine ⟨l, _, rfl, rfl, .ro t l (some a) cap vs h1 h2 e3 (fun hne => ?_) (fun h => by cases h)⟩
  have hpos : 0 < vs.length := by
   rw [e2]; exact Nat.mul_pos (List.length_pos_iff.2 hne) tw
  have h0 := e4 0 _ (List.getElem?_eq_getElem hpos)
  have ha : a.add 0 = a := rfl
  rw [ha] at h0
  obtain ⟨b, off, spot⟩ := a
  have hsp : spot = none := by
   unfold World.cell? at h0
   split at h0
   ·split at h0
    ·cases h0
    ·rename_i hsp; simpa using hsp
   ·cases h0
  subst hsp
  refine ⟨b, off, rfl, hR b ?_, fun j v hv => ?_⟩
  ·unfold World.cell? at h0
   split at h0
   ·rename_i hb; exact (Array.getElem?_eq_some_iff.1 hb).1
   ·cases h0
  ·have := e4 j v hv
   unfold Addr.add at this
   by_cases hj : j = 0
   ·subst hj; simpa using this
   ·rw [if_neg hj] at this; exact this
theorem opens_slc {ts e : TypeId} {t : RT} (hc : P.cellsOf ts = 1) (hs : P.underlying ts = some (.slice e)) (he : OpensR P e t) : OpensR P ts (.slc t) := ⟨hc, fun hR h => by
 obtain ⟨l, v, rfl, h1, hd⟩ := open_sliceR hs he hR h
 exact ⟨l, .one _ _ _ _ rfl h1 hd .nil⟩⟩
theorem opens_ob {e w b r s ew eb er es : TypeId} {f0 f1 f2 f3 f4 f5 : Field} (hc : P.cellsOf e = 6) (he : P.underlying e = some (.struct #[f0, f1, f2, f3, f4, f5]))
  (a0 : f0.type = w ∧ f0.offset = 0) (a1 : f1.type = w ∧ f1.offset = 1) (a2 : f2.type = b ∧ f2.offset = 2) (a3 : f3.type = r ∧ f3.offset = 3) (a4 : f4.type = r ∧ f4.offset = 4) (a5 : f5.type = s ∧ f5.offset = 5)
  (hw : P.underlying w = some (.slice ew)) (hb : P.underlying b = some (.slice eb)) (hr : P.underlying r = some (.slice er)) (hs : P.underlying s = some (.slice es)) (ow : OpensR P ew .u32) (ob : OpensR P eb .u8) (or : OpensR P er .rel) (os : OpensR P es .sym)
  (cw : P.cellsOf w = 1) (cb : P.cellsOf b = 1) (cr : P.cellsOf r = 1) (cs : P.cellsOf s = 1) : OpensR P e .obj := ⟨hc, fun {H enc C W R ρ base sp held fuel cells x} hR h => by
 obtain ⟨xs, n, _, _, hl, hn, hi⟩ := DataW.trod_struct he h
 rw [hc] at hl
 have get : ∀ {t : RT} {ts u : TypeId}, P.underlying ts = some (.slice u) → OpensR P u t → P.cellsOf ts = 1 → ∀ (i : Nat) (g : Field), [f0, f1, f2, f3, f4, f5][i]? = some g → g.type = ts → g.offset = i → ∃ (y : List t.ty) (v : Value), cells[i]? = some v ∧ v.oneCell' = true ∧ Den C W R ρ (.ro t y) v := fun {t ts u} h1 h2 h3 i g hg hgt hgo => by
  have hx : i < xs.length := by
   rw [hn]; simpa using (List.getElem?_eq_some_iff.1 hg).1
  have hlt : i < cells.length := by
   have := (List.getElem?_eq_some_iff.1 hg).1
   simp at this; omega
  have := hi i g (by simpa using hg)
  rw [hgt, hgo, h3, List.getElem?_eq_getElem hx] at this
  obtain ⟨l, v, e, ho, hd⟩ := open_sliceR (C := C) (ρ := ρ) h1 h2 hR this
  refine ⟨l, v, ?_, ho, hd⟩
  rw [List.drop_eq_getElem_cons hlt] at e
  simp only [List.take_succ_cons, List.take_zero, List.cons.injEq, and_true] at e
  rw [List.getElem?_eq_getElem hlt, e]
 obtain ⟨y0, v0, e0, o0, d0⟩ := get hw ow cw 0 f0 rfl a0.1 a0.2
 obtain ⟨y1, v1, e1, o1, d1⟩ := get hw ow cw 1 f1 rfl a1.1 a1.2
 obtain ⟨y2, v2, e2, o2, d2⟩ := get hb ob cb 2 f2 rfl a2.1 a2.2
 obtain ⟨y3, v3, e3, o3, d3⟩ := get hr or cr 3 f3 rfl a3.1 a3.2
 obtain ⟨y4, v4, e4, o4, d4⟩ := get hr or cr 4 f4 rfl a4.1 a4.2
 obtain ⟨y5, v5, e5, o5, d5⟩ := get hs os cs 5 f5 rfl a5.1 a5.2
 have hcs : cells = [v0, v1, v2, v3, v4, v5] := by
  match cells, hl with
  | [c0, c1, c2, c3, c4, c5], _ => simp at e0 e1 e2 e3 e4 e5; subst e0 e1 e2 e3 e4 e5; rfl
 subst hcs
 exact ⟨⟨y0, y1, y2, y3, y4, y5⟩, .one _ _ _ _ rfl o0 d0 (.one _ _ _ _ rfl o1 d1 (.one _ _ _ _ rfl o2 d2 (.one _ _ _ _ rfl o3 d3 (.one _ _ _ _ rfl o4 d4 (.one _ _ _ _ rfl o5 d5 .nil)))))⟩⟩
end
end Go.Sy
namespace Go.Sy
abbrev RQ (p q : Prop) : Prop := p ∧ (p → q)
abbrev IT (b : Bool) (p q : Prop) : Prop := (b = true → p) ∧ (b = false → q)
end Go.Sy
