/- Contracts. -/
import Derived.Test.YtpjccdncokamlaaGreatDoorQFnBase
import Derived.Test.YtpjccdncokamlaaGreatDoorQE12
set_option linter.unusedVariables false
set_option linter.unusedSimpArgs false
namespace Go.Proofs.YtpjccdncokamlaaGreatDoor
open Go.RowKit Go.Sy
structure Box (P : Prop) : Prop where
  h : P
theorem Box.of {A B : Prop} (e : A = B) (h : B) : Box A := ⟨e.mpr h⟩
abbrev bodyOf (f : Func) : Code := f.body.getD .skip
section
variable {ea : Ear} {has : Int → Prop} {gl : List (Nat × SVal)}
abbrev plainQ (v : SVal) : Exi → SState → Prop := fun _ s => all (sub tAtN (lookS s.hp) [] deep ((find 0 s.fr).getD .any) v)
abbrev start (args : List SVal) (n : Nat) : SState := { fr := numb 0 args, hp := [], next := 0, sz := n }
theorem plain_mk {f : Nat} {fn : Func} {k : List SVal → Nat → Acc ORes} (hf : Tryz.prog.funcs[f]? = some fn) (n : Nat) {con : List (Nat × (List SVal → Nat → Acc ORes))} (hcon : Cons Tryz.prog (ctx ea has) gl con)
    (hk : ∀ {W : World} {R : Nat → Prop} {ρ : Nat → Option Value} {h : Nat → Option Cont} {args : List SVal} {vs : List Value} {next : Nat} {r : ORes} {l l' : List Nat}, DenA (ctx ea has) W R ρ args vs → (k args next).run h l = .ok (r, l') → (∀ q, r.vc = some q → q) →
      ∃ args' ls, r.ws = [] ∧ r.k = 0 ∧ all (subL tAtN none' [] deep args args') ∧ Nat.ble args'.length n = true ∧
        (∀ W R ρ0 own0, HownOk (env gl con) own0 ρ0 → ∀ b ∈ loopsOf (bodyOf fn), ∀ L, find (headId b) ls = some L → LOk Tryz.prog (env gl con) (ctx ea has) gl W R own0 ρ0 b L) ∧
        (run (env gl con) ls (bodyOf fn) (start args' n) (ends (env gl con) fn.results.toList)).sat (plainQ r.v))
    (hb : fn.body = some (bodyOf fn)) (hname : (fn.name == "runtime.NumGoroutine") = false) (hnt : fn.ntmps = n) : Con ea has gl f k where
  call := enters hf hb hname
  does {W R ρ h args vs next r l l'} M hA hr hv hn := by
    obtain ⟨args', ls, h1, h2, h3, h4, HL, h5⟩ := hk hA hr hv
    exact con_plain (env_ok hcon) rfl hf hb M (Enters.bare M hA (all_mem h3)) ⟨rfl, (by rw [h1]; intro p hp; cases hp), h2⟩ rfl hnt h4 HL h5
theorem plain_mkB {f : Nat} {fn : Func} {k : List SVal → Nat → Acc ORes} (hf : Tryz.prog.funcs[f]? = some fn) (n : Nat) {con : List (Nat × (List SVal → Nat → Acc ORes))} (hcon : Cons Tryz.prog (ctx ea has) gl con)
    (hk : ∀ {W : World} {R : Nat → Prop} {ρ : Nat → Option Value} {h : Nat → Option Cont} {args : List SVal} {vs : List Value} {next : Nat} {r : ORes} {l l' : List Nat}, DenA (ctx ea has) W R ρ args vs → (k args next).run h l = .ok (r, l') → (∀ q, r.vc = some q → q) →
      ∃ args' ls, r.ws = [] ∧ r.k = 0 ∧ Box (all (subL tAtN none' [] deep args args')) ∧ Nat.ble args'.length n = true ∧
        (∀ W R ρ0 own0, HownOk (env gl con) own0 ρ0 → ∀ b ∈ loopsOf (bodyOf fn), ∀ L, find (headId b) ls = some L → LOk Tryz.prog (env gl con) (ctx ea has) gl W R own0 ρ0 b L) ∧
        Box ((run (env gl con) ls (bodyOf fn) (start args' n) (ends (env gl con) fn.results.toList)).sat (plainQ r.v)))
    (hb : fn.body = some (bodyOf fn)) (hname : (fn.name == "runtime.NumGoroutine") = false) (hnt : fn.ntmps = n) : Con ea has gl f k :=
  plain_mk hf n hcon (fun hA hr hv => by
    obtain ⟨args', ls, h1, h2, ⟨h3⟩, h4, HL, ⟨h5⟩⟩ := hk hA hr hv
    exact ⟨args', ls, h1, h2, h3, h4, HL, h5⟩) hb hname hnt
theorem new_mk {f : Nat} {fn : Func} {k : List SVal → Nat → Acc ORes} (hf : Tryz.prog.funcs[f]? = some fn) (n : Nat) {con : List (Nat × (List SVal → Nat → Acc ORes))} (hcon : Cons Tryz.prog (ctx ea has) gl con)
    (hk : ∀ {W : World} {R : Nat → Prop} {ρ : Nat → Option Value} {h : Nat → Option Cont} {args : List SVal} {vs : List Value} {next : Nat} {r : ORes} {l l' : List Nat}, DenA (ctx ea has) W R ρ args vs → (k args next).run h l = .ok (r, l') → (∀ q, r.vc = some q → q) →
      ∃ args' ls rv hp m, (r.v = shV next rv ∧ r.ws = shH next hp ∧ r.k = m) ∧ all (subL tAtN none' [] deep args args') ∧ Nat.ble args'.length n = true ∧ (nodupB (keysH hp) && allLt m (keysH hp) && boundIn (keysH hp) m) = true ∧
        (∀ W R ρ0 own0, HownOk (env gl con) own0 ρ0 → ∀ b ∈ loopsOf (bodyOf fn), ∀ L, find (headId b) ls = some L → LOk Tryz.prog (env gl con) (ctx ea has) gl W R own0 ρ0 b L) ∧
        (run (env gl con) ls (bodyOf fn) (start args' n) (ends (env gl con) fn.results.toList)).sat (newQ (env gl con) rv hp m))
    (hb : fn.body = some (bodyOf fn)) (hname : (fn.name == "runtime.NumGoroutine") = false) (hnt : fn.ntmps = n) : Con ea has gl f k where
  call := enters hf hb hname
  does {W R ρ h args vs next r l l'} M hA hr hv hn := by
    obtain ⟨args', ls, rv, hp, m, h1, h3, h4, h6, HL, h5⟩ := hk hA hr hv
    exact con_new (env_ok hcon) rfl hf hb M (fz := []) (Enters.bare M hA (all_mem h3)) h1 (fun p hp => by cases hp) hn rfl hnt h4 h6 HL h5
theorem new_mkB {f : Nat} {fn : Func} {k : List SVal → Nat → Acc ORes} (hf : Tryz.prog.funcs[f]? = some fn) (n : Nat) {con : List (Nat × (List SVal → Nat → Acc ORes))} (hcon : Cons Tryz.prog (ctx ea has) gl con)
    (hk : ∀ {W : World} {R : Nat → Prop} {ρ : Nat → Option Value} {h : Nat → Option Cont} {args : List SVal} {vs : List Value} {next : Nat} {r : ORes} {l l' : List Nat}, DenA (ctx ea has) W R ρ args vs → (k args next).run h l = .ok (r, l') → (∀ q, r.vc = some q → q) →
      ∃ args' ls rv hp m, (r.v = shV next rv ∧ r.ws = shH next hp ∧ r.k = m) ∧ Box (all (subL tAtN none' [] deep args args')) ∧ Nat.ble args'.length n = true ∧ (nodupB (keysH hp) && allLt m (keysH hp) && boundIn (keysH hp) m) = true ∧
        (∀ W R ρ0 own0, HownOk (env gl con) own0 ρ0 → ∀ b ∈ loopsOf (bodyOf fn), ∀ L, find (headId b) ls = some L → LOk Tryz.prog (env gl con) (ctx ea has) gl W R own0 ρ0 b L) ∧
        Box ((run (env gl con) ls (bodyOf fn) (start args' n) (ends (env gl con) fn.results.toList)).sat (newQ (env gl con) rv hp m)))
    (hb : fn.body = some (bodyOf fn)) (hname : (fn.name == "runtime.NumGoroutine") = false) (hnt : fn.ntmps = n) : Con ea has gl f k :=
  new_mk hf n hcon (fun hA hr hv => by
    obtain ⟨args', ls, rv, hp, m, h1, ⟨h3⟩, h4, h6, HL, ⟨h5⟩⟩ := hk hA hr hv
    exact ⟨args', ls, rv, hp, m, h1, h3, h4, h6, HL, h5⟩) hb hname hnt
abbrev envK (gl : List (Nat × SVal)) (con : List (Nat × (List SVal → Nat → Acc ORes))) (m : Nat) : Env := { env gl con with old := rangeN 0 m }
theorem envK_ok {con : List (Nat × (List SVal → Nat → Acc ORes))} {m : Nat} (h : Cons Tryz.prog (ctx ea has) gl con) : EnvOk Tryz.prog (ctx ea has) gl (envK gl con m) :=
  let e := env_ok h
  ⟨e.tab, e.err, e.glob, e.tAt, e.mixed, e.con, e.cmp⟩
def handsOk (h : Nat → Option Cont) (f : Nat → Nat) : List Nat → List Cont → Prop
  | [], [] => True
  | q :: qs, c :: cs => h q = some (rnC f c) ∧ handsOk h f qs cs
  | _, _ => False
theorem hands_of {h : Nat → Option Cont} {f : Nat → Nat} : ∀ {qs : List Nat} {cs : List Cont}, handsOk h f qs cs → cs.length = qs.length ∧ ∀ (i q : Nat) (c : Cont), qs[i]? = some q → cs[i]? = some c → h q = some (rnC f c)
  | [], [], _ => ⟨rfl, fun i q c h1 => by simp at h1⟩
  | q :: qs, c :: cs, ⟨h1, h2⟩ => by
    obtain ⟨e1, e2⟩ := hands_of h2
    refine ⟨by simp [e1], fun i q' c' k1 k2 => ?_⟩
    cases i with
    | zero => simp at k1 k2; subst k1 k2; exact h1
    | succ i => exact e2 i q' c' (by simpa using k1) (by simpa using k2)
  | [], _ :: _, h => h.elim
  | _ :: _, [], h => h.elim
abbrev S1 (args : List SVal) (hp : List (Nat × Option Cont)) (next n : Nat) : SState := { fr := numb 0 args, hp := hp, next := next, sz := n }
theorem gen_mk {f : Nat} {fn : Func} {k : List SVal → Nat → Acc ORes} (hf : Tryz.prog.funcs[f]? = some fn) (n m : Nat) {con : List (Nat × (List SVal → Nat → Acc ORes))} (hcon : Cons Tryz.prog (ctx ea has) gl con)
    (hk : ∀ {W : World} {R : Nat → Prop} {ρ : Nat → Option Value} {h : Nat → Option Cont} {args : List SVal} {vs : List Value} {next : Nat} {r : ORes} {l l' : List Nat}, DenA (ctx ea has) W R ρ args vs → (k args next).run h l = .ok (r, l') → (∀ q, r.vc = some q → q) →
      ∃ kept rest cs args0 s1 ls rv hp j, args = rnL (gq (kept ++ rest)) args0 ∧ kept.length = m ∧ (r.v = rnV (fN kept next) rv ∧ r.ws = gone rest ++ rnH (fN kept next) hp ∧ r.k = j) ∧ nodupB (kept ++ rest) = true ∧ handsOk h (gq (kept ++ rest)) (kept ++ rest) cs ∧
        (okL (kept ++ rest).length args0 && cs.all (okC (kept ++ rest).length)) = true ∧ Nat.ble args0.length n = true ∧
        Box (fits (envK gl con m) (S1 args0 (numC 0 cs) (kept ++ rest).length n) s1) ∧ (nodupB (keysH hp) && allLt (m + j) (keysH hp) && boundIn (keysH hp) (m + j)) = true ∧
        (∀ W R ρ0 own0, HownOk (envK gl con m) own0 ρ0 → ∀ b ∈ loopsOf (bodyOf fn), ∀ L, find (headId b) ls = some L → LOk Tryz.prog (envK gl con m) (ctx ea has) gl W R own0 ρ0 b L) ∧
        Box ((run (envK gl con m) ls (bodyOf fn) s1 (ends (envK gl con m) fn.results.toList)).sat (newQ (envK gl con m) rv hp (m + j))))
    (hb : fn.body = some (bodyOf fn)) (hname : (fn.name == "runtime.NumGoroutine") = false) (hnt : fn.ntmps = n) : Con ea has gl f k where
  call := enters hf hb hname
  does {W R ρ h args vs next r l l'} M hA hr hv hn := by
    obtain ⟨kept, rest, cs, args0, s1, ls, rv, hp, j, rfl, rfl, h2, h3, h4, h5, h6, ⟨h7⟩, h8, HL, ⟨h9⟩⟩ := hk hA hr hv
    obtain ⟨e1, e2⟩ := hands_of h4
    refine con_gen (envK_ok hcon) rfl hf hb M hA h2 (fun p hp => (gone_find (K := rest) (n := p.1) (c := p.2) ?_).2) hn rfl e1 h3 e2 (fun q hq => ?_) h5 rfl hnt h6 h7 h8 HL h9
    · have gen : ∀ (L : List Nat) (p : Nat × Option Cont), p ∈ gone L → find p.1 (gone L) = some p.2 := fun L => by
        induction L with
        | nil => intro p hp; cases hp
        | cons q L ih =>
          intro p hp
          simp only [gone, find]
          cases hb : q.beq p.1 with
          | true =>
            have all : ∀ L, ∀ p ∈ gone L, p.2 = none := fun L => by
              induction L with
              | nil => intro p hp; cases hp
              | cons q L ih =>
                intro p hp
                rcases List.mem_cons.1 hp with rfl | hp
                · rfl
                · exact ih p hp
            rw [all _ p hp]
          | false =>
            rcases List.mem_cons.1 hp with rfl | hp
            · rw [Nat.beq_refl] at hb; cases hb
            · exact ih p hp
      exact gen rest p hp
    · rw [h2.2.1]
      simp only [keys, List.map_append, List.mem_append] at hq ⊢
      rcases hq with hq | hq
      · obtain ⟨i, hi⟩ := List.mem_iff_getElem?.1 hq
        have hlt : i < kept.length := (List.getElem?_eq_some_iff.1 hi).1
        obtain ⟨q', g1, g2⟩ := fN_lt (next := next) hlt
        rw [hi] at g1; cases g1
        right
        simp only [Bool.and_eq_true] at h8
        have := rnH_key (f := fN kept next) (boundIn_of h8.2 i (by omega))
        rw [g2] at this
        exact this
      · exact .inl (gone_keys.2 hq)
theorem gen_mk0 {f : Nat} {fn : Func} {k : List SVal → Nat → Acc ORes} (hf : Tryz.prog.funcs[f]? = some fn) (n m : Nat) {con : List (Nat × (List SVal → Nat → Acc ORes))} (hcon : Cons Tryz.prog (ctx ea has) gl con)
    (hk : ∀ {W : World} {R : Nat → Prop} {ρ : Nat → Option Value} {h : Nat → Option Cont} {args : List SVal} {vs : List Value} {next : Nat} {r : ORes} {l l' : List Nat}, DenA (ctx ea has) W R ρ args vs → (k args next).run h l = .ok (r, l') → (∀ q, r.vc = some q → q) →
      ∃ kept rest cs args0 s1 rv hp j, args = rnL (gq (kept ++ rest)) args0 ∧ kept.length = m ∧ (r.v = rnV (fN kept next) rv ∧ r.ws = gone rest ++ rnH (fN kept next) hp ∧ r.k = j) ∧ nodupB (kept ++ rest) = true ∧ handsOk h (gq (kept ++ rest)) (kept ++ rest) cs ∧
        (okL (kept ++ rest).length args0 && cs.all (okC (kept ++ rest).length)) = true ∧ Nat.ble args0.length n = true ∧
        Box (fits (envK gl con m) (S1 args0 (numC 0 cs) (kept ++ rest).length n) s1) ∧ (nodupB (keysH hp) && allLt (m + j) (keysH hp) && boundIn (keysH hp) (m + j)) = true ∧
        (∀ (W : World) (R own0 : Nat → Prop) (ρ0 : Nat → Option Value) (R2 : Nat → Prop) (ρ2 : Nat → Option Value) (vs : List Value), Inv (envK gl con m) (ctx ea has) gl W R own0 ρ0 s1 ⟨vs.toArray ++ Array.replicate (n - vs.toArray.size) undef, []⟩ W R2 ρ2 → ∀ (Z : Ending → World → Prop),
          (∀ e s v W' R1 ρ1, newQ (envK gl con m) rv hp (m + j) e s → Inv (envK gl con m) (ctx ea has) gl W R own0 ρ0 s ⟨#[v], []⟩ W' R1 ρ1 → Z (.returned v) W') → Calls Tryz.prog f vs.toArray W Z))
    (hb : fn.body = some (bodyOf fn)) (hname : (fn.name == "runtime.NumGoroutine") = false) : Con ea has gl f k where
  call := enters hf hb hname
  does {W R ρ h args vs next r l l'} M hA hr hv hn := by
    obtain ⟨kept, rest, cs, args0, s1, rv, hp, j, rfl, rfl, h2, h3, h4, h5, h6, ⟨h7⟩, h8, H⟩ := hk hA hr hv
    obtain ⟨e1, e2⟩ := hands_of h4
    refine con_gen0 (envK_ok hcon) rfl M hA h2 (fun p hp => (gone_find (K := rest) (n := p.1) (c := p.2) ?_).2) hn rfl e1 h3 e2 (fun q hq => ?_) h5 rfl h6 h7 h8 fun own0 ρ0 R2 ρ2 I2 Z hZ => H _ _ own0 ρ0 R2 ρ2 vs I2 Z hZ
    · have gen : ∀ (L : List Nat) (p : Nat × Option Cont), p ∈ gone L → find p.1 (gone L) = some p.2 := fun L => by
        induction L with
        | nil => intro p hp; cases hp
        | cons q L ih =>
          intro p hp
          simp only [gone, find]
          cases hb : q.beq p.1 with
          | true =>
            have all : ∀ L, ∀ p ∈ gone L, p.2 = none := fun L => by
              induction L with
              | nil => intro p hp; cases hp
              | cons q L ih =>
                intro p hp
                rcases List.mem_cons.1 hp with rfl | hp
                · rfl
                · exact ih p hp
            rw [all _ p hp]
          | false =>
            rcases List.mem_cons.1 hp with rfl | hp
            · rw [Nat.beq_refl] at hb; cases hb
            · exact ih p hp
      exact gen rest p hp
    · rw [h2.2.1]
      simp only [keys, List.map_append, List.mem_append] at hq ⊢
      rcases hq with hq | hq
      · obtain ⟨i, hi⟩ := List.mem_iff_getElem?.1 hq
        have hlt : i < kept.length := (List.getElem?_eq_some_iff.1 hi).1
        obtain ⟨q', g1, g2⟩ := fN_lt (next := next) hlt
        rw [hi] at g1; cases g1
        right
        simp only [Bool.and_eq_true] at h8
        have := rnH_key (f := fN kept next) (boundIn_of h8.2 i (by omega))
        rw [g2] at this
        exact this
      · exact .inl (gone_keys.2 hq)
theorem ro_split {W : World} {R : Nat → Prop} {ρ ρ' : Nat → Option Value} {t : RT} {l : List t.ty} {v : Value} (h : Den (ctx ea has) W R ρ (.ro t l) v) : (l = [] ∧ Den (ctx ea has) W R ρ' .nilslice v) ∨ Den (ctx ea has) W R ρ' (.roN t l) v := by
  cases h with
  | ro _ _ A cap vs h1 h2 h3 h4 h5 =>
    cases A with
    | none =>
      have := h5 rfl
      subst this
      have : l = [] := List.eq_nil_of_length_eq_zero (by omega)
      subst this
      exact .inl ⟨rfl, .nilslice⟩
    | some a =>
      refine .inr (.roN t l a cap vs h1 h2 (h3.free (fun _ h => h) (flat_plain t l)) fun hl => ?_)
      obtain ⟨b, off, e, g⟩ := h4 hl
      cases e
      exact ⟨b, off, rfl, g⟩
theorem Enters.raw {C : Ctx} {W : World} {R : Nat → Prop} {ρ : Nat → Option Value} {h : Nat → Option Cont} (M : Mem C gl W R ρ h) {r : ORes} {args' : List SVal} {vs : List Value} (hA : DenA C W R (fun _ => none) args' vs) :
    Enters C gl W R ρ h r R (fun _ => False) (fun _ => none) [] 0 args' vs where
  args := hA
  mem := ⟨M.base, (fun r c hc => by cases hc), (fun r r' c c' v v' b h1 => by cases h1), (fun r c v b h1 => by cases h1)⟩
  above _ _ := rfl
  Rm _ h := h
  Rn _ h := .inl h
  owned b hb := by obtain ⟨r, c, v, h1, _⟩ := hb; cases h1
  own b hb := hb.elim
def kClone (t : RT) : List SVal → Nat → Acc ORes := fun a n => match a with
  | [.ro t' l] => match decEq t' t with
    | .isTrue h => .ret (newR n (.own 0) [(0, .recs t (h ▸ l))] 1 (some (l.length ≤ 137438953472)))
    | .isFalse _ => .fail "clone"
  | _ => .fail "clone"
theorem clone_mk {f : Nat} {fn : Func} {t : RT} (hf : Tryz.prog.funcs[f]? = some fn) (n : Nat)
    (h1 : (run (env gl []) [] (bodyOf fn) (start [.nilslice] n) (ends (env gl []) fn.results.toList)).sat (newQ (env gl []) (.own 0) [(0, .recs t [])] 1))
    (h2 : ∀ l : List t.ty, l.length ≤ 137438953472 → (run (env gl []) [] (bodyOf fn) (start [.roN t l] n) (ends (env gl []) fn.results.toList)).sat (newQ (env gl []) (.own 0) [(0, .recs t l)] 1))
    (hb : fn.body = some (bodyOf fn)) (hl : loopsOf (bodyOf fn) = []) (hname : (fn.name == "runtime.NumGoroutine") = false) (hnt : fn.ntmps = n) (hn1 : Nat.ble 1 n = true) : Con ea has gl f (kClone t) where
  call := enters hf hb hname
  does {W R ρ h args vs next r l l'} M hA hr hv hn := by
    unfold kClone at hr
    split at hr
    · rename_i t' x
      split at hr
      · have e := ‹t' = t›
        subst e
        have := ret_ok hr; subst this
        have hx := hv _ rfl
        have HL : ∀ W R ρ0 own0, HownOk (env gl []) own0 ρ0 → ∀ b ∈ loopsOf (bodyOf fn), ∀ L, find (headId b) ([] : List (Nat × LSum)) = some L → LOk Tryz.prog (env gl []) (ctx ea has) gl W R own0 ρ0 b L := fun _ _ _ _ _ b hb' => by rw [hl] at hb'; cases hb'
        cases hA with
        | cons _ v _ us d1 d2 =>
          cases d2
          rcases ro_split (ρ' := fun _ => none) d1 with ⟨rfl, d⟩ | d
          · exact con_new (env_ok (con := []) trivial) rfl hf hb M (fz := []) (Enters.raw M (.cons _ _ _ _ d .nil)) ⟨rfl, rfl, rfl⟩ (fun p hp => by cases hp) hn rfl hnt (by simpa using hn1) rfl HL h1
          · exact con_new (env_ok (con := []) trivial) rfl hf hb M (fz := []) (Enters.raw M (.cons _ _ _ _ d .nil)) ⟨rfl, rfl, rfl⟩ (fun p hp => by cases hp) hn rfl hnt (by simpa using hn1) rfl HL (h2 x hx)
      · simp [Acc.run] at hr
    · simp [Acc.run] at hr
theorem noSums {c : Code} {ls : List (Nat × LSum)} (h : ((loopsOf c).all fun b => (find (headId b) ls).isNone) = true) {Z : Code → LSum → Prop} : ∀ b ∈ loopsOf c, ∀ L, find (headId b) ls = some L → Z b L := fun b hb L hL => by
  have := List.all_eq_true.1 h b hb
  rw [hL] at this; cases this
def nilR (t : RT) : List t.ty := []
theorem DenA.i0 {C : Ctx} {W : World} {R : Nat → Prop} {ρ : Nat → Option Value} {k : IntKind} {a : SI} {l : List SVal} {vs : List Value} (h : DenA C W R ρ (.int k a :: l) vs) : InI k a := by
  cases h with | cons _ _ _ _ h _ => exact h.int_inv.2
theorem DenA.tl {C : Ctx} {W : World} {R : Nat → Prop} {ρ : Nat → Option Value} {a : SVal} {l : List SVal} {vs : List Value} (h : DenA C W R ρ (a :: l) vs) : ∃ us, DenA C W R ρ l us := by
  cases h with | cons _ _ _ us _ h => exact ⟨us, h⟩
end
end Go.Proofs.YtpjccdncokamlaaGreatDoor

