/- Words. -/
import Derived.Test.YtpjccdncokamlaaGreatDoorQE13
import Derived.MakeChecks
set_option linter.unusedVariables false
set_option linter.unusedSimpArgs false
namespace Go.Sy
open Go.ChangeShapes Go.RowKit Go.WideShapes
structure Snt where
  name : String
  g : Nat
  n : Int
  text : List UInt8
def Snt.datum (nm : String) (x : Snt) : String × DataW Unit := (x.name, .iface nm (.ptr (.agg [.lit (.string x.text)])))
def adr (W : World) (g : Nat) : Addr := match W.cell? ⟨g, 0, none⟩ with
  | some (.iface _ (.pointer (some a))) => a
  | _ => ⟨0, 0, none⟩
theorem spot_none {W : World} {a : Addr} {v : Value} (h : W.cell? a = some v) : a.spot = none ∧ a.block < W.heap.size := by
  unfold World.cell? at h
  split at h
  · rename_i hb
    split at h
    · cases h
    · rename_i hs; exact ⟨by simpa using hs, (Array.getElem?_eq_some_iff.1 hb).1⟩
  · cases h
structure ErrTypes (P : Program) (ti tp te ts : TypeId) (nm : String) : Prop where
  hi : ∃ ms, P.underlying ti = some (.interface ms)
  row : ∀ u, P.typeName? 3 u = some nm → u = tp
  hp : P.underlying tp = some (.pointer te)
  he : ∃ f : Field, P.underlying te = some (.struct #[f]) ∧ f.type = ts ∧ f.offset = 0
  hs : P.underlying ts = some .string
  ce : P.cellsOf te = 1
  cs : P.cellsOf ts = 1
section
variable {P : Program} {W W' : World}
def Rowed (P : Program) (W : World) (ps : List MemPlace) : Prop := ∀ b off, MemPlace.cell b off ∈ ps →
    (∃ c t, W.heap[b]? = some (.cells c t (0, 0))) ∧ ∀ u v, W.cell? ⟨b, off, none⟩ = some (.iface u v) → Value.okWide P W .any 0 u v
theorem sents_of {ti tp te ts : TypeId} {nm : String} (T : ErrTypes P ti tp te ts nm) : ∀ {L : List Snt} {ps : List MemPlace},
    (∀ x ∈ L, P.globalNamed x.name = some x.g ∧ (P.globals[x.g]?).map (·.type) = some ti) → DataW.LaidVars P W (L.map (Snt.datum nm)) ps → Rowed P W ps → ps.Nodup →
    (∀ x ∈ L, W.cell? ⟨x.g, 0, none⟩ = some (.iface tp (.pointer (some (adr W x.g)))) ∧ (adr W x.g).spot = none ∧ MemPlace.cell (adr W x.g).block (adr W x.g).off ∈ ps) ∧
      L.Pairwise fun x y => adr W x.g ≠ adr W y.g
  | [], ps, _, _, _, _ => ⟨fun x hx => by simp at hx, .nil⟩
  | x :: L, ps, hg, ⟨g, t, cs, fuel, p, q, e1, e2, e3, e4, e5, e6⟩, hr, hn => by
    obtain ⟨g1, g2⟩ := hg x List.mem_cons_self
    obtain rfl := Option.some.inj (g1.symm.trans e1)
    obtain rfl := Option.some.inj (g2.symm.trans e2)
    obtain ⟨ms, hi⟩ := T.hi
    obtain ⟨f, he, hft, hfo⟩ := T.he
    obtain ⟨cl⟩ := cs
    have ok : ∀ u v, cl = [.iface u v] → Value.okWide P W .any 0 u v := fun u v e => by
      subst e
      have hmem : MemPlace.cell x.g 0 ∈ ps := by rw [e6]; simp [MemPlace.row]
      exact (hr x.g 0 hmem).2 u v (by simpa using World.var?_cell e1 e3 0)
    obtain ⟨a, s, rfl, hc, _, _, hp⟩ := errorString_of_trod hi T.row T.hp he hft hfo T.hs T.ce T.cs e4 ok
    have hcell : W.cell? ⟨x.g, 0, none⟩ = some (.iface tp (.pointer (some a))) := by simpa using World.var?_cell e1 e3 0
    have ha : adr W x.g = a := by unfold adr; rw [hcell]
    have hpa : p = [.cell a.block a.off] := by rw [hp]; simp [MemPlace.row]
    rw [hpa] at e6
    have hq : ∀ y ∈ q, y ∈ ps := fun y hy => by rw [e6]; simp [hy]
    have hnq : q.Nodup ∧ MemPlace.cell a.block a.off ∉ q := by
      rw [e6] at hn
      have h1 := List.nodup_append.1 hn
      refine ⟨h1.2.1, fun hm => ?_⟩
      exact h1.2.2 _ (by simp) _ hm rfl
    obtain ⟨i1, i2⟩ := sents_of T (fun y hy => hg y (List.mem_cons_of_mem _ hy)) e5 (fun b off hb => hr b off (hq _ hb)) hnq.1
    refine ⟨fun y hy => ?_, List.pairwise_cons.2 ⟨fun y hy e => ?_, i2⟩⟩
    · rcases List.mem_cons.1 hy with rfl | hy
      · rw [ha]; exact ⟨hcell, (spot_none hc).1, by rw [e6]; simp⟩
      · obtain ⟨j1, j2, j3⟩ := i1 y hy
        exact ⟨j1, j2, hq _ j3⟩
    · rw [ha] at e
      have := (i1 y hy).2.2
      rw [← e] at this
      exact hnq.2 this
theorem pair_ne {α : Type} {r : α → α → Prop} (hs : ∀ x y, r x y → r y x) : ∀ {l : List α}, l.Pairwise r → ∀ x ∈ l, ∀ y ∈ l, x = y ∨ r x y
  | [], _, x, hx, _, _ => by simp at hx
  | a :: l, h, x, hx, y, hy => by
    obtain ⟨h1, h2⟩ := List.pairwise_cons.1 h
    rcases List.mem_cons.1 hx with ex | mx <;> rcases List.mem_cons.1 hy with ey | my
    · exact .inl (ex.trans ey.symm)
    · exact .inr (ex ▸ h1 _ my)
    · exact .inr (ey ▸ hs _ _ (h1 _ mx))
    · exact pair_ne hs h2 x mx y my
def eaOf (L : List Snt) (W : World) (n : Int) : Addr := match L.find? (fun x => decide (x.n = n)) with
  | some x => adr W x.g
  | none => ⟨0, 0, none⟩
def hasOf (L : List Snt) (n : Int) : Prop := ∃ x ∈ L, x.n = n
theorem eaOf_mem {L : List Snt} (hn : (L.map (·.n)).Nodup) {x : Snt} (hx : x ∈ L) : eaOf L W x.n = adr W x.g := by
  unfold eaOf
  cases h : L.find? (fun y => decide (y.n = x.n)) with
  | none => have := List.find?_eq_none.1 h x hx; simp at this
  | some y =>
    have h1 := List.mem_of_find?_eq_some h
    have h2 : y.n = x.n := by simpa using List.find?_some h
    have : y = x := by
      rcases pair_ne (r := fun a b : Snt => a.n ≠ b.n) (fun _ _ h e => h e.symm) (List.pairwise_map.1 hn) y h1 x hx with h | h
      · exact h
      · exact absurd h2 h
    rw [this]
abbrev earOf (L : List Snt) (W : World) : Ear := ⟨eaOf L W, fun _ => none⟩
theorem base_of {ti tp te ts tA : TypeId} {nm : String} (T : ErrTypes P ti tp te ts nm) (hA : tp ≠ tA) {L : List Snt} (hg : ∀ x ∈ L, P.globalNamed x.name = some x.g ∧ (P.globals[x.g]?).map (·.type) = some ti)
    (hn : (L.map (·.n)).Nodup) (h : laidMet P (L.map (Snt.datum nm)) W) {gl : List (Nat × SVal)} (hgl : ∀ p ∈ gl, ∃ x ∈ L, p = (x.g, .rop [.err (.bare x.n)])) {fx : Nat → Option Obj} (hfx : ∀ b o, fx b = some o → W.heap[b]? = some o) :
    Base ⟨eaOf L W, tp, tA, hasOf L, fx⟩ gl W (fun b => b < W.heap.size) := by
  obtain ⟨ps, h1, h2, h3⟩ := h
  obtain ⟨s1, s2⟩ := sents_of T hg h1 h3 h2
  refine ⟨fun _ h => h, ?_, hA, ?_, ?_, ?_, fun b o h => ⟨(Array.getElem?_eq_some_iff.1 (hfx b o h)).1, hfx b o h⟩⟩
  · rintro n m ⟨x, hx, rfl⟩ ⟨y, hy, rfl⟩ e
    simp only [eaOf_mem hn hx, eaOf_mem hn hy] at e
    rcases pair_ne (r := fun x y : Snt => adr W x.g ≠ adr W y.g) (fun _ _ h e => h e.symm) s2 x hx y hy with h | h
    · rw [h]
    · exact absurd e h
  · rintro n ⟨x, hx, rfl⟩
    simp only [eaOf_mem hn hx]
    exact (s1 x hx).2.1
  · rintro n ⟨x, hx, rfl⟩
    simp only [eaOf_mem hn hx]
    obtain ⟨c, t, hb⟩ := (h3 _ _ (s1 x hx).2.2).1
    exact ⟨(Array.getElem?_eq_some_iff.1 hb).1, c, t, hb⟩
  · intro g s hs
    obtain ⟨x, hx, e⟩ := hgl _ (find_mem hs)
    obtain ⟨rfl, rfl⟩ := Prod.mk.inj e
    have hd : Den ⟨eaOf L W, tp, tA, hasOf L, fx⟩ W (fun b => b < W.heap.size) (fun _ => none) (.err (.bare x.n)) (.iface tp (.pointer (some (adr W x.g)))) := by
      have := Den.bare (C := ⟨eaOf L W, tp, tA, hasOf L, fx⟩) (W := W) (R := fun b => b < W.heap.size) (ρ := fun _ => none) x.n ⟨x, hx, rfl⟩
      simp only [eaOf_mem hn hx] at this
      exact this
    have hc := (s1 x hx).1
    refine .rop _ _ x.g 0 (spot_none hc).2 (.one _ _ _ _ rfl rfl hd .nil) fun j v hv => ?_
    cases j with
    | zero => simp at hv; subst hv; exact hc
    | succ j => simp at hv
variable {C : Ctx} {gl : List (Nat × SVal)} {R R' : Nat → Prop} {ρ ρ' : Nat → Option Value}
theorem Base.mem (B : Base C gl W R) : Mem C gl W R (fun _ => none) none' :=
  ⟨B, fun _ _ h => (by cases h), fun _ _ _ _ _ _ _ h => (by cases h), fun _ _ _ _ h => (by cases h)⟩
theorem Trans.below {ws : List (Nat × Option Cont)} (T : Trans C gl W R ρ none' ws W' R' ρ') : Below W.heap.size W W' :=
  ⟨T.os, T.tape, T.output, T.size, fun k hk => T.keep k hk fun r c v _ h => by cases h⟩
theorem does_at {f : Nat} {k : List SVal → Nat → Acc ORes} (K : ConOk P C gl f k) (B : Base C gl W R) {args : List SVal} {vs : List Value} (hA : DenA C W R (fun _ => none) args vs) {r : ORes} (hr : k args 0 = .ret r) (hv : ∀ q, r.vc = some q → q) :
    Calls P f vs.toArray W fun e W' => ∃ v R' ρ', e = .returned v ∧ Below W.heap.size W W' ∧ Den C W' R' ρ' r.v v :=
  (K.does (l := []) (l' := []) B.mem hA (next := 0) (r := r) (by rw [hr]; rfl) hv (fun _ _ => rfl)).mono fun e W' ⟨v, R', ρ', h1, h2, h3⟩ => ⟨v, R', ρ', h1, h2.below, h3⟩
end
section
variable {H : Type} {enc : TypeId × Value → H} {P : Program} {W W' : World}
theorem trodAll_stays {sp : Nat → Bool} (hl : laidOutB P = true) (hb : Below W.heap.size W W') : ∀ {ts : List TypeId} {vs : List Value} {ds : List (DataW H)} {ps : List MemPlace}, (∀ t ∈ ts, P.readableRec t = true ∧ t < P.types.size) →
    DataW.TrodAll enc P W 0 (fun _ => true) true ts vs ds ps → (∀ p ∈ ps, p.block < W.heap.size) → (∀ p ∈ ps, sp p.block = true) → DataW.TrodAll enc P W' 0 sp true ts vs ds ps
  | [], vs, ds, ps, _, h, _, _ => by
    obtain ⟨rfl, rfl, rfl⟩ := trodAll_nil h
    exact rfl
  | t :: ts, vs, ds, ps, ht, h, hp, hs => by
    obtain ⟨v, vs', d, ds', p, q, rfl, rfl, rfl, h1, h2⟩ := trodAll_cons h
    obtain ⟨r1, r2⟩ := ht t List.mem_cons_self
    exact ⟨p, q, WideElems.Trod_stays hl r1 r2 h1 (fun x hx => hb.same (hp x (List.mem_append_left _ hx))) (fun x hx => hs x (List.mem_append_left _ hx)),
      trodAll_stays hl hb (fun u hu => ht u (List.mem_cons_of_mem _ hu)) h2 (fun x hx => hp x (List.mem_append_right _ hx)) (fun x hx => hs x (List.mem_append_right _ hx)), rfl⟩
theorem post_true {fn : Func} {s : ChangeSpec} {fresh handsOn : Bool} {args : Array Value} {ds gs : List (DataW H)} {before : List MemPlace} {tb : TypeId} (hl : laidOutB P = true)
    (hts : ∀ t ∈ fn.params.toList, P.readableRec t = true ∧ t < P.types.size) (hvars : s.vars = []) (hrt : fn.resultTypes = #[tb]) (hb : P.underlying tb = some .bool)
    (hs : s.fn H ds = { results := [.lit (.bool true)], args := ds }) (hW : DataW.Whole enc P fn.params.toList s.vars false W args.toList ds gs before) (hB : Below W.heap.size W W') :
    s.post enc P fn false fresh handsOn false W args (.bool true) W' := by
  have hW' := hW
  have hlt := hW.lt
  obtain ⟨p, q, h1, h2, rfl, h4, h5⟩ := hW
  rw [hvars] at h2
  obtain ⟨rfl, rfl⟩ := trodVars_none h2
  have hsp : s.fn H (ds ++ []) = { results := [.lit (.bool true)], args := ds } := by rw [List.append_nil]; exact hs
  refine ⟨ds, [], p ++ [], [], p, [], hW', ?_, ?_, ?_, World.keptBut_mono (fun x hx => ⟨hx, .inr (.inl (by simpa using hx))⟩) (hB.frame (· ∈ p ++ [])), fun h => by cases h⟩
  · rw [hsp, hrt]
    exact trodAll_mk1 (shut_bool hb true)
  · rw [hsp]
    have hlt' : ∀ x ∈ p, x.block < W.heap.size := fun x hx => hlt x (by simpa using hx)
    exact trodAll_stays hl hB hts h1 hlt' (fun x hx => by simpa using hlt' x hx)
  · rw [hsp, hvars]; rfl
end
end Go.Sy

