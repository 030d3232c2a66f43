/- Contracts that the proofs use. -/
import Derived.Test.YtbdfibaljoedpaaDoorQFnBase
import Derived.Test.YtbdfibaljoedpaaDoorQIsaM
import Derived.Test.YtbdfibaljoedpaaDoorQE12
set_option linter.unusedVariables false
set_option linter.unusedSimpArgs false
namespace Go.Proofs.YtbdfibaljoedpaaDoor
open Go.RowKit Go.Sy Go.Fac
abbrev bodyOf (f : Func) : Code := f.body.getD .skip
section
variable {ea : Int → Addr} {has : Int → Prop} {gl : List (Nat × SVal)}
abbrev plainQ (v : SVal) : Exi → SState → Prop := fun _ s => all (sub 134 (lookS s.hp) [] deep ((find 0 s.fr).getD .any) v)
abbrev start (args : List SVal) (n : Nat) : SState := { fr := numb 0 args, hp := [], next := 0, sz := n }
theorem plain_mk {f : Nat} {fn : Func} {k : List SVal → Nat → Acc ORes} (hf : Tryd.prog.funcs[f]? = some fn) (n : Nat) {con : List (Nat × (List SVal → Nat → Acc ORes))} (hcon : Cons Tryd.prog (ctx ea has) gl con)
    (hk : ∀ {W : World} {R : Nat → Prop} {ρ : Nat → Option Value} {h : Nat → Option Cont} {args : List SVal} {vs : List Value} {next : Nat} {r : ORes} {l l' : List Nat}, DenA (ctx ea has) W R ρ args vs → (k args next).run h l = .ok (r, l') → (∀ q, r.vc = some q → q) →
      ∃ args' ls, r.ws = [] ∧ r.k = 0 ∧ all (subL 134 none' [] deep args args') ∧ Nat.ble args'.length n = true ∧
        (∀ W R ρ0 own0, HownOk (env gl con) own0 ρ0 → ∀ b ∈ loopsOf (bodyOf fn), ∀ L, find (headId b) ls = some L → LOk Tryd.prog (env gl con) (ctx ea has) gl W R own0 ρ0 b L) ∧
        (run (env gl con) ls (bodyOf fn) (start args' n) (ends (env gl con) fn.results.toList)).sat (plainQ r.v))
    (hb : fn.body = some (bodyOf fn)) (hname : (fn.name == "runtime.NumGoroutine") = false) (hnt : fn.ntmps = n) : Con ea has gl f k where
  call := enters hf hb hname
  does {W R ρ h args vs next r l l'} M hA hr hv hn := by
    obtain ⟨args', ls, h1, h2, h3, h4, HL, h5⟩ := hk hA hr hv
    exact con_plain (env_ok hcon) hf hb M (Enters.bare M hA (all_mem h3)) ⟨rfl, (by rw [h1]; intro p hp; cases hp), h2⟩ rfl hnt h4 HL h5
theorem new_mk {f : Nat} {fn : Func} {k : List SVal → Nat → Acc ORes} (hf : Tryd.prog.funcs[f]? = some fn) (n : Nat) {con : List (Nat × (List SVal → Nat → Acc ORes))} (hcon : Cons Tryd.prog (ctx ea has) gl con)
    (hk : ∀ {W : World} {R : Nat → Prop} {ρ : Nat → Option Value} {h : Nat → Option Cont} {args : List SVal} {vs : List Value} {next : Nat} {r : ORes} {l l' : List Nat}, DenA (ctx ea has) W R ρ args vs → (k args next).run h l = .ok (r, l') → (∀ q, r.vc = some q → q) →
      ∃ args' ls rv hp m, (r.v = shV next rv ∧ r.ws = shH next hp ∧ r.k = m) ∧ all (subL 134 none' [] deep args args') ∧ Nat.ble args'.length n = true ∧ (nodupB (keysH hp) && allLt m (keysH hp) && boundIn (keysH hp) m) = true ∧
        (∀ W R ρ0 own0, HownOk (env gl con) own0 ρ0 → ∀ b ∈ loopsOf (bodyOf fn), ∀ L, find (headId b) ls = some L → LOk Tryd.prog (env gl con) (ctx ea has) gl W R own0 ρ0 b L) ∧
        (run (env gl con) ls (bodyOf fn) (start args' n) (ends (env gl con) fn.results.toList)).sat (newQ (env gl con) rv hp m))
    (hb : fn.body = some (bodyOf fn)) (hname : (fn.name == "runtime.NumGoroutine") = false) (hnt : fn.ntmps = n) : Con ea has gl f k where
  call := enters hf hb hname
  does {W R ρ h args vs next r l l'} M hA hr hv hn := by
    obtain ⟨args', ls, rv, hp, m, h1, h3, h4, h6, HL, h5⟩ := hk hA hr hv
    exact con_new (env_ok hcon) hf hb M (fz := []) (Enters.bare M hA (all_mem h3)) h1 (fun p hp => by cases hp) hn rfl hnt h4 h6 HL h5
def LastIs (h : Nat → Option Cont) (a0 : List SVal) (t : RT) (x : List t.ty) (args : List SVal) (ws : List (Nat × Option Cont)) : Prop :=
  (args = a0 ++ [.ro t x] ∧ ws = []) ∨ (args = a0 ++ [.nilslice] ∧ x = [] ∧ ws = []) ∨ ∃ q, args = a0 ++ [.own q] ∧ h q = some (.recs t x) ∧ ws = [(q, none)]
theorem nil_ro {C : Ctx} {W : World} {R : Nat → Prop} {ρ : Nat → Option Value} {t : RT} : ∀ {l : List SVal} {vs : List Value}, DenA C W R ρ (l ++ [.nilslice]) vs → DenA C W R ρ (l ++ [.ro t []]) vs := by
  intro l
  induction l with
  | nil =>
    intro vs h
    cases h with
    | cons _ v _ us h1 h2 =>
      cases h2
      refine .cons _ _ _ _ ?_ .nil
      cases h1
      exact .ro _ [] none 0 [] (Nat.le_refl _) (Nat.zero_le _) .nil (fun h => (h rfl).elim) fun _ => rfl
  | cons a l ih =>
    intro vs h
    cases h with
    | cons _ v _ us h1 h2 => exact .cons _ _ _ _ h1 (ih h2)
theorem last_enters {W : World} {R : Nat → Prop} {ρ : Nat → Option Value} {h : Nat → Option Cont} {r : ORes} {args : List SVal} {vs : List Value} (M : Mem (ctx ea has) gl W R ρ h) {a0 a' : List SVal} {t : RT} {x : List t.ty} {fz : List (Nat × Option Cont)}
    (hL : LastIs h a0 t x args fz) (hk : ∀ n ∈ keys fz, n ∈ keys r.ws) (hA : DenA (ctx ea has) W R ρ args vs) (h3 : all (subL 134 none' [] deep a0 a')) : ∃ R1 own0, Enters (ctx ea has) gl W R ρ h r R1 own0 (fun _ => none) [] 0 (a' ++ [.ro t x]) vs := by
  rcases hL with ⟨rfl, _⟩ | ⟨rfl, rfl, _⟩ | ⟨q, rfl, hq, rfl⟩
  · exact ⟨_, _, Enters.last M hA (all_mem h3)⟩
  · exact ⟨_, _, Enters.last M (nil_ro hA) (all_mem h3)⟩
  · exact Enters.frozen M hq (hk q (by simp [keys])) hA (all_mem h3)
theorem last_fz {W : World} {R : Nat → Prop} {ρ : Nat → Option Value} {h : Nat → Option Cont} {args : List SVal} (M : Mem (ctx ea has) gl W R ρ h) {a0 : List SVal} {t : RT} {x : List t.ty} {fz : List (Nat × Option Cont)}
    (hL : LastIs h a0 t x args fz) : ∀ p ∈ fz, p.2 = none ∧ ρ p.1 ≠ none := by
  rcases hL with ⟨_, rfl⟩ | ⟨_, _, rfl⟩ | ⟨q, _, hq, rfl⟩
  · intro p hp; cases hp
  · intro p hp; cases hp
  · intro p hp
    simp only [List.mem_singleton] at hp
    subst hp
    obtain ⟨v, hv, _⟩ := M.at_ q _ hq
    exact ⟨rfl, by rw [hv]; simp⟩
theorem lastP_mk {f : Nat} {fn : Func} {k : List SVal → Nat → Acc ORes} (hf : Tryd.prog.funcs[f]? = some fn) (n : Nat) {con : List (Nat × (List SVal → Nat → Acc ORes))} (hcon : Cons Tryd.prog (ctx ea has) gl con)
    (hk : ∀ {W : World} {R : Nat → Prop} {ρ : Nat → Option Value} {h : Nat → Option Cont} {args : List SVal} {vs : List Value} {next : Nat} {r : ORes} {l l' : List Nat}, DenA (ctx ea has) W R ρ args vs → (k args next).run h l = .ok (r, l') → (∀ q, r.vc = some q → q) →
      ∃ a0 t x a' ls, LastIs h a0 t x args r.ws ∧ r.k = 0 ∧ all (subL 134 none' [] deep a0 a') ∧ Nat.ble (a' ++ [SVal.ro t x]).length n = true ∧
        (∀ W R ρ0 own0, HownOk (env gl con) own0 ρ0 → ∀ b ∈ loopsOf (bodyOf fn), ∀ L, find (headId b) ls = some L → LOk Tryd.prog (env gl con) (ctx ea has) gl W R own0 ρ0 b L) ∧
        (run (env gl con) ls (bodyOf fn) (start (a' ++ [.ro t x]) n) (ends (env gl con) fn.results.toList)).sat (plainQ r.v))
    (hb : fn.body = some (bodyOf fn)) (hname : (fn.name == "runtime.NumGoroutine") = false) (hnt : fn.ntmps = n) : Con ea has gl f k where
  call := enters hf hb hname
  does {W R ρ h args vs next r l l'} M hA hr hv hn := by
    obtain ⟨a0, t, x, a', ls, h1, h2, h3, h4, HL, h5⟩ := hk hA hr hv
    obtain ⟨R1, own0, S⟩ := last_enters M (r := r) h1 (fun _ h => h) hA h3
    exact con_plain (env_ok hcon) hf hb M S ⟨rfl, fun p hp => (last_fz M h1 p hp).1, h2⟩ rfl hnt h4 HL h5
theorem lastN_mk {f : Nat} {fn : Func} {k : List SVal → Nat → Acc ORes} (hf : Tryd.prog.funcs[f]? = some fn) (n : Nat) {con : List (Nat × (List SVal → Nat → Acc ORes))} (hcon : Cons Tryd.prog (ctx ea has) gl con)
    (hk : ∀ {W : World} {R : Nat → Prop} {ρ : Nat → Option Value} {h : Nat → Option Cont} {args : List SVal} {vs : List Value} {next : Nat} {r : ORes} {l l' : List Nat}, DenA (ctx ea has) W R ρ args vs → (k args next).run h l = .ok (r, l') → (∀ q, r.vc = some q → q) →
      ∃ a0 t x a' ls rv hp m fz, LastIs h a0 t x args fz ∧ (r.v = shV next rv ∧ r.ws = fz ++ shH next hp ∧ r.k = m) ∧ all (subL 134 none' [] deep a0 a') ∧ Nat.ble (a' ++ [SVal.ro t x]).length n = true ∧ (nodupB (keysH hp) && allLt m (keysH hp) && boundIn (keysH hp) m) = true ∧
        (∀ W R ρ0 own0, HownOk (env gl con) own0 ρ0 → ∀ b ∈ loopsOf (bodyOf fn), ∀ L, find (headId b) ls = some L → LOk Tryd.prog (env gl con) (ctx ea has) gl W R own0 ρ0 b L) ∧
        (run (env gl con) ls (bodyOf fn) (start (a' ++ [.ro t x]) n) (ends (env gl con) fn.results.toList)).sat (newQ (env gl con) rv hp m))
    (hb : fn.body = some (bodyOf fn)) (hname : (fn.name == "runtime.NumGoroutine") = false) (hnt : fn.ntmps = n) : Con ea has gl f k where
  call := enters hf hb hname
  does {W R ρ h args vs next r l l'} M hA hr hv hn := by
    obtain ⟨a0, t, x, a', ls, rv, hp, m, fz, h1, h2, h3, h4, h6, HL, h5⟩ := hk hA hr hv
    obtain ⟨R1, own0, S⟩ := last_enters M (r := r) h1 (fun n h => by rw [h2.2.1]; simp only [keys, List.map_append, List.mem_append]; exact .inl h) hA h3
    exact con_new (env_ok hcon) hf hb M S h2 (last_fz M h1) hn rfl hnt h4 h6 HL h5
abbrev envO (gl : List (Nat × SVal)) (con : List (Nat × (List SVal → Nat → Acc ORes))) : Env := { env gl con with old := [0] }
theorem envO_ok {con : List (Nat × (List SVal → Nat → Acc ORes))} (h : Cons Tryd.prog (ctx ea has) gl con) : EnvOk Tryd.prog (ctx ea has) gl (envO gl con) :=
  let e := env_ok h
  ⟨e.tab, e.err, e.glob, e.tAt, e.mixed, e.con, e.cmp⟩
abbrev mapQ (gl : List (Nat × SVal)) (con : List (Nat × (List SVal → Nat → Acc ORes))) (v : SVal) (c1 : Cont) : Exi → SState → Prop := fun _ s => fits (envO gl con) s { fr := [(0, v)], hp := [(0, some c1)], next := 1, sz := 1 }
abbrev startM (args : List SVal) (c : Cont) (n : Nat) : SState := { fr := numb 0 (args ++ [.map 0]), hp := [(0, some c)], next := 1, sz := n }
theorem map_mk {f : Nat} {fn : Func} {k : List SVal → Nat → Acc ORes} (hf : Tryd.prog.funcs[f]? = some fn) (n : Nat) {con : List (Nat × (List SVal → Nat → Acc ORes))} (hcon : Cons Tryd.prog (ctx ea has) gl con)
    (hk : ∀ {W : World} {R : Nat → Prop} {ρ : Nat → Option Value} {h : Nat → Option Cont} {args : List SVal} {vs : List Value} {next : Nat} {r : ORes} {l l' : List Nat}, DenA (ctx ea has) W R ρ args vs → (k args next).run h l = .ok (r, l') → (∀ q, r.vc = some q → q) →
      ∃ a0 q c0 c1 a' ls, args = a0 ++ [.map q] ∧ h q = some c0 ∧ (isMapC c0 && isMapC c1) = true ∧ (plain r.v = true ∧ r.ws = [(q, some c1)] ∧ r.k = 0) ∧ all (subL 134 none' [] deep a0 a') ∧ Nat.ble (a'.length + 1) n = true ∧
        (∀ W R ρ0 own0, HownOk (envO gl con) own0 ρ0 → ∀ b ∈ loopsOf (bodyOf fn), ∀ L, find (headId b) ls = some L → LOk Tryd.prog (envO gl con) (ctx ea has) gl W R own0 ρ0 b L) ∧
        (run (envO gl con) ls (bodyOf fn) (startM a' c0 n) (ends (envO gl con) fn.results.toList)).sat (mapQ gl con r.v c1))
    (hb : fn.body = some (bodyOf fn)) (hname : (fn.name == "runtime.NumGoroutine") = false) (hnt : fn.ntmps = n) : Con ea has gl f k where
  call := enters hf hb hname
  does {W R ρ h args vs next r l l'} M hA hr hv hn := by
    obtain ⟨a0, q, c0, c1, a', ls, rfl, h1, h2, h3, h4, h5, HL, h6⟩ := hk hA hr hv
    exact con_map (envO_ok hcon) hf hb M hA (next := next) h1 h2 h3 rfl hnt (all_mem h4) h5 HL h6
abbrev envK (gl : List (Nat × SVal)) (con : List (Nat × (List SVal → Nat → Acc ORes))) (m : Nat) : Env := { env gl con with old := rangeN 0 m }
theorem envK_ok {con : List (Nat × (List SVal → Nat → Acc ORes))} {m : Nat} (h : Cons Tryd.prog (ctx ea has) gl con) : EnvOk Tryd.prog (ctx ea has) gl (envK gl con m) :=
  let e := env_ok h
  ⟨e.tab, e.err, e.glob, e.tAt, e.mixed, e.con, e.cmp⟩
def handsOk (h : Nat → Option Cont) (f : Nat → Nat) : List Nat → List Cont → Prop
  | [], [] => True
  | q :: qs, c :: cs => h q = some (rnC f c) ∧ handsOk h f qs cs
  | _, _ => False
theorem hands_of {h : Nat → Option Cont} {f : Nat → Nat} : ∀ {qs : List Nat} {cs : List Cont}, handsOk h f qs cs → cs.length = qs.length ∧ ∀ (i q : Nat) (c : Cont), qs[i]? = some q → cs[i]? = some c → h q = some (rnC f c)
  | [], [], _ => ⟨rfl, fun i q c h1 => by simp at h1⟩
  | q :: qs, c :: cs, ⟨h1, h2⟩ => by
    obtain ⟨e1, e2⟩ := hands_of h2
    refine ⟨by simp [e1], fun i q' c' k1 k2 => ?_⟩
    cases i with
    | zero => simp at k1 k2; subst k1 k2; exact h1
    | succ i => exact e2 i q' c' (by simpa using k1) (by simpa using k2)
  | [], _ :: _, h => h.elim
  | _ :: _, [], h => h.elim
abbrev S1 (args : List SVal) (hp : List (Nat × Option Cont)) (next n : Nat) : SState := { fr := numb 0 args, hp := hp, next := next, sz := n }
theorem gen_mk {f : Nat} {fn : Func} {k : List SVal → Nat → Acc ORes} (hf : Tryd.prog.funcs[f]? = some fn) (n m : Nat) {con : List (Nat × (List SVal → Nat → Acc ORes))} (hcon : Cons Tryd.prog (ctx ea has) gl con)
    (hk : ∀ {W : World} {R : Nat → Prop} {ρ : Nat → Option Value} {h : Nat → Option Cont} {args : List SVal} {vs : List Value} {next : Nat} {r : ORes} {l l' : List Nat}, DenA (ctx ea has) W R ρ args vs → (k args next).run h l = .ok (r, l') → (∀ q, r.vc = some q → q) →
      ∃ kept rest cs args0 s1 ls rv hp j, args = rnL (gq (kept ++ rest)) args0 ∧ kept.length = m ∧ (r.v = rnV (fN kept next) rv ∧ r.ws = gone rest ++ rnH (fN kept next) hp ∧ r.k = j) ∧ nodupB (kept ++ rest) = true ∧ handsOk h (gq (kept ++ rest)) (kept ++ rest) cs ∧
        (okL (kept ++ rest).length args0 && cs.all (okC (kept ++ rest).length)) = true ∧ Nat.ble args0.length n = true ∧
        fits (envK gl con m) (S1 args0 (numC 0 cs) (kept ++ rest).length n) s1 ∧ (nodupB (keysH hp) && allLt (m + j) (keysH hp) && boundIn (keysH hp) (m + j)) = true ∧
        (∀ W R ρ0 own0, HownOk (envK gl con m) own0 ρ0 → ∀ b ∈ loopsOf (bodyOf fn), ∀ L, find (headId b) ls = some L → LOk Tryd.prog (envK gl con m) (ctx ea has) gl W R own0 ρ0 b L) ∧
        (run (envK gl con m) ls (bodyOf fn) s1 (ends (envK gl con m) fn.results.toList)).sat (newQ (envK gl con m) rv hp (m + j)))
    (hb : fn.body = some (bodyOf fn)) (hname : (fn.name == "runtime.NumGoroutine") = false) (hnt : fn.ntmps = n) : Con ea has gl f k where
  call := enters hf hb hname
  does {W R ρ h args vs next r l l'} M hA hr hv hn := by
    obtain ⟨kept, rest, cs, args0, s1, ls, rv, hp, j, rfl, rfl, h2, h3, h4, h5, h6, h7, h8, HL, h9⟩ := hk hA hr hv
    obtain ⟨e1, e2⟩ := hands_of h4
    refine con_gen (envK_ok hcon) hf hb M hA h2 (fun p hp => (gone_find (K := rest) (n := p.1) (c := p.2) ?_).2) hn rfl e1 h3 e2 (fun q hq => ?_) h5 rfl hnt h6 h7 h8 HL h9
    · have gen : ∀ (L : List Nat) (p : Nat × Option Cont), p ∈ gone L → find p.1 (gone L) = some p.2 := fun L => by
        induction L with
        | nil => intro p hp; cases hp
        | cons q L ih =>
          intro p hp
          simp only [gone, find]
          cases hb : q.beq p.1 with
          | true =>
            have all : ∀ L, ∀ p ∈ gone L, p.2 = none := fun L => by
              induction L with
              | nil => intro p hp; cases hp
              | cons q L ih =>
                intro p hp
                rcases List.mem_cons.1 hp with rfl | hp
                · rfl
                · exact ih p hp
            rw [all _ p hp]
          | false =>
            rcases List.mem_cons.1 hp with rfl | hp
            · rw [Nat.beq_refl] at hb; cases hb
            · exact ih p hp
      exact gen rest p hp
    · rw [h2.2.1]
      simp only [keys, List.map_append, List.mem_append] at hq ⊢
      rcases hq with hq | hq
      · obtain ⟨i, hi⟩ := List.mem_iff_getElem?.1 hq
        have hlt : i < kept.length := (List.getElem?_eq_some_iff.1 hi).1
        obtain ⟨q', g1, g2⟩ := fN_lt (next := next) hlt
        rw [hi] at g1; cases g1
        right
        simp only [Bool.and_eq_true] at h8
        have := rnH_key (f := fN kept next) (boundIn_of h8.2 i (by omega))
        rw [g2] at this
        exact this
      · exact .inl (gone_keys.2 hq)
theorem ro_split {W : World} {R : Nat → Prop} {ρ ρ' : Nat → Option Value} {t : RT} {l : List t.ty} {v : Value} (h : Den (ctx ea has) W R ρ (.ro t l) v) : (l = [] ∧ Den (ctx ea has) W R ρ' .nilslice v) ∨ Den (ctx ea has) W R ρ' (.roN t l) v := by
  cases h with
  | ro _ _ A cap vs h1 h2 h3 h4 h5 =>
    cases A with
    | none =>
      have := h5 rfl
      subst this
      have : l = [] := List.eq_nil_of_length_eq_zero (by omega)
      subst this
      exact .inl ⟨rfl, .nilslice⟩
    | some a =>
      refine .inr (.roN t l a cap vs h1 h2 (h3.free (fun _ h => h) (flat_plain t l)) fun hl => ?_)
      obtain ⟨b, off, e, g⟩ := h4 hl
      cases e
      exact ⟨b, off, rfl, g⟩
theorem Enters.raw {C : Ctx} {W : World} {R : Nat → Prop} {ρ : Nat → Option Value} {h : Nat → Option Cont} (M : Mem C gl W R ρ h) {r : ORes} {args' : List SVal} {vs : List Value} (hA : DenA C W R (fun _ => none) args' vs) :
    Enters C gl W R ρ h r R (fun _ => False) (fun _ => none) [] 0 args' vs where
  args := hA
  mem := ⟨M.base, (fun r c hc => by cases hc), (fun r r' c c' v v' b h1 => by cases h1), (fun r c v b h1 => by cases h1)⟩
  above _ _ := rfl
  Rm _ h := h
  Rn _ h := .inl h
  owned b hb := by obtain ⟨r, c, v, h1, _⟩ := hb; cases h1
  own b hb := hb.elim
def kClone (t : RT) : List SVal → Nat → Acc ORes := fun a n => match a with
  | [.ro t' l] => match decEq t' t with
    | .isTrue h => .ret (newR n (.own 0) [(0, .recs t (h ▸ l))] 1 (some (l.length ≤ 137438953472)))
    | .isFalse _ => .fail "clone"
  | _ => .fail "clone"
theorem clone_mk {f : Nat} {fn : Func} {t : RT} (hf : Tryd.prog.funcs[f]? = some fn) (n : Nat)
    (h1 : (run (env gl []) [] (bodyOf fn) (start [.nilslice] n) (ends (env gl []) fn.results.toList)).sat (newQ (env gl []) (.own 0) [(0, .recs t [])] 1))
    (h2 : ∀ l : List t.ty, l.length ≤ 137438953472 → (run (env gl []) [] (bodyOf fn) (start [.roN t l] n) (ends (env gl []) fn.results.toList)).sat (newQ (env gl []) (.own 0) [(0, .recs t l)] 1))
    (hb : fn.body = some (bodyOf fn)) (hl : loopsOf (bodyOf fn) = []) (hname : (fn.name == "runtime.NumGoroutine") = false) (hnt : fn.ntmps = n) (hn1 : Nat.ble 1 n = true) : Con ea has gl f (kClone t) where
  call := enters hf hb hname
  does {W R ρ h args vs next r l l'} M hA hr hv hn := by
    unfold kClone at hr
    split at hr
    · rename_i t' x
      split at hr
      · have e := ‹t' = t›
        subst e
        have := ret_ok hr; subst this
        have hx := hv _ rfl
        have HL : ∀ W R ρ0 own0, HownOk (env gl []) own0 ρ0 → ∀ b ∈ loopsOf (bodyOf fn), ∀ L, find (headId b) ([] : List (Nat × LSum)) = some L → LOk Tryd.prog (env gl []) (ctx ea has) gl W R own0 ρ0 b L := fun _ _ _ _ _ b hb' => by rw [hl] at hb'; cases hb'
        cases hA with
        | cons _ v _ us d1 d2 =>
          cases d2
          rcases ro_split (ρ' := fun _ => none) d1 with ⟨rfl, d⟩ | d
          · exact con_new (env_ok (con := []) trivial) hf hb M (fz := []) (Enters.raw M (.cons _ _ _ _ d .nil)) ⟨rfl, rfl, rfl⟩ (fun p hp => by cases hp) hn rfl hnt (by simpa using hn1) rfl HL h1
          · exact con_new (env_ok (con := []) trivial) hf hb M (fz := []) (Enters.raw M (.cons _ _ _ _ d .nil)) ⟨rfl, rfl, rfl⟩ (fun p hp => by cases hp) hn rfl hnt (by simpa using hn1) rfl HL (h2 x hx)
      · simp [Acc.run] at hr
    · simp [Acc.run] at hr
theorem noLoops {c : Code} (h : loopsOf c = []) {Z : Code → LSum → Prop} {ls : List (Nat × LSum)} : ∀ b ∈ loopsOf c, ∀ L, find (headId b) ls = some L → Z b L := fun b hb => by rw [h] at hb; cases hb
def ofF (w imm : Int) : In5 := if ofOk w = true then ⟨w / 16777216, w / 65536 % 256, w / 256 % 256, w % 256, ofImm w imm⟩ else ⟨0, 0, 0, 0, 0⟩
theorem DenA.i0 {C : Ctx} {W : World} {R : Nat → Prop} {ρ : Nat → Option Value} {k : IntKind} {a : SI} {l : List SVal} {vs : List Value} (h : DenA C W R ρ (.int k a :: l) vs) : InI k a := by
  cases h with | cons _ _ _ _ h _ => exact h.int_inv.2
theorem DenA.tl {C : Ctx} {W : World} {R : Nat → Prop} {ρ : Nat → Option Value} {a : SVal} {l : List SVal} {vs : List Value} (h : DenA C W R ρ (a :: l) vs) : ∃ us, DenA C W R ρ l us := by
  cases h with | cons _ _ _ us _ h => exact ⟨us, h⟩
def kTables : List SVal → Nat → Acc ORes := fun a n => match a with | [] => .ret ({ v := .agg [] }) | _ => .fail "Tables"
theorem argTables  : (all (subL 134 none' [] deep [] [])) = (
  True) := by kernel_rfl
theorem runTables (gl : List (Nat × SVal)) : (Tr.sat (plainQ (.agg [])) (run (env gl []) [] (bodyOf Tryd.f59) (start [] 2) (ends (env gl []) Tryd.f59.results.toList))) = (
  True) := by kernel_rfl
set_option maxHeartbeats 4000000 in
theorem cTables : Con ea has gl 59 kTables := by
  refine plain_mk Tryd.func59 2 (con := []) trivial (fun hA hr hv => ?_) (by kernel_rfl) (by kernel_rfl) Tryd.ntmps59
  unfold kTables at hr; split at hr
  · skip
    have := ret_ok hr; subst this
    refine ⟨_, [], rfl, rfl, (argTables ).mpr (by simp), rfl, (fun W R ρ0 own0 hown => noLoops (by kernel_rfl)), (runTables gl ).mpr ?_⟩
    clear hr
    trivial
  · cases hr
def kClass : List SVal → Nat → Acc ORes := fun a n => match a with | [.agg [], .int .i64 op] => .ret ({ v := .int .i64 (.sym (isaClass op.val) 0 4) }) | _ => .fail "Class"
theorem argClass (op : SI) : (all (subL 134 none' [] deep [.agg [], .int .i64 op] [.agg [], .int .i64 (.full op.val)])) = (
  SI.val op = SI.val op) := by kernel_rfl
theorem runClass (gl : List (Nat × SVal)) (op : SI) : (Tr.sat (plainQ (.int .i64 (.sym (isaClass op.val) 0 4))) (run (env gl []) [] (bodyOf Tryd.f60) (start [.agg [], .int .i64 (.full op.val)] 29) (ends (env gl []) Tryd.f60.results.toList))) = (
  ((decide ((1 : Int) ≤ SI.val op) && decide (SI.val op ≤ (24 : Int))) = true → (1 : Int) = isaClass (SI.val op)) ∧ ((decide ((1 : Int) ≤ SI.val op) && decide (SI.val op ≤ (24 : Int))) = false → ((decide ((32 : Int) ≤ SI.val op) && decide (SI.val op ≤ (44 : Int))) = true → (2 : Int) = isaClass (SI.val op)) ∧ ((decide ((32 : Int) ≤ SI.val op) && decide (SI.val op ≤ (44 : Int))) = false → ((decide ((64 : Int) ≤ SI.val op) && decide (SI.val op ≤ (67 : Int))) = true → (3 : Int) = isaClass (SI.val op)) ∧ ((decide ((64 : Int) ≤ SI.val op) && decide (SI.val op ≤ (67 : Int))) = false → (decide (SI.val op = (96 : Int)) = true → (4 : Int) = isaClass (SI.val op)) ∧ (decide (SI.val op = (96 : Int)) = false → (0 : Int) = isaClass (SI.val op)))))) := by kernel_rfl
set_option maxHeartbeats 4000000 in
theorem cClass : Con ea has gl 60 kClass := by
  refine plain_mk Tryd.func60 29 (con := []) trivial (fun hA hr hv => ?_) (by kernel_rfl) (by kernel_rfl) Tryd.ntmps60
  unfold kClass at hr; split at hr
  · rename_i op
    have := ret_ok hr; subst this
    refine ⟨_, [], rfl, rfl, (argClass op).mpr (by simp), rfl, (fun W R ρ0 own0 hown => noLoops (by kernel_rfl)), (runClass gl op).mpr ?_⟩
    clear hr
    generalize op.val = op
    simp only [isaClass, Bool.and_eq_true, decide_eq_true_eq, Bool.and_eq_false_imp, decide_eq_false_iff_not]
    repeat (first | omega | split | intro _ | refine ⟨?_, ?_⟩)
  · cases hr
def kTwo : List SVal → Nat → Acc ORes := fun a n => match a with | [.agg [], .int .i64 op] => .ret ({ v := .bool (.sym (isaTwo op.val)) }) | _ => .fail "Two"
theorem argTwo (op : SI) : (all (subL 134 none' [] deep [.agg [], .int .i64 op] [.agg [], .int .i64 (.full op.val)])) = (
  SI.val op = SI.val op) := by kernel_rfl
theorem runTwo (gl : List (Nat × SVal)) (op : SI) : (Tr.sat (plainQ (.bool (.sym (isaTwo op.val)))) (run (env gl []) [] (bodyOf Tryd.f105) (start [.agg [], .int .i64 (.full op.val)] 14) (ends (env gl []) Tryd.f105.results.toList))) = (
  (decide (SI.val op = (14 : Int)) = true → true = isaTwo (SI.val op)) ∧ (decide (SI.val op = (14 : Int)) = false → (decide (SI.val op = (15 : Int)) = true → true = isaTwo (SI.val op)) ∧ (decide (SI.val op = (15 : Int)) = false → (decide (SI.val op = (19 : Int)) = true → true = isaTwo (SI.val op)) ∧ (decide (SI.val op = (19 : Int)) = false → (decide (SI.val op = (20 : Int)) = true → true = isaTwo (SI.val op)) ∧ (decide (SI.val op = (20 : Int)) = false → (decide (SI.val op = (21 : Int)) = true → true = isaTwo (SI.val op)) ∧ (decide (SI.val op = (21 : Int)) = false → (decide (SI.val op = (22 : Int)) = true → true = isaTwo (SI.val op)) ∧ (decide (SI.val op = (22 : Int)) = false → (decide (SI.val op = (96 : Int)) = true → true = isaTwo (SI.val op)) ∧ (decide (SI.val op = (96 : Int)) = false → false = isaTwo (SI.val op))))))))) := by kernel_rfl
set_option maxHeartbeats 4000000 in
theorem cTwo : Con ea has gl 105 kTwo := by
  refine plain_mk Tryd.func105 14 (con := []) trivial (fun hA hr hv => ?_) (by kernel_rfl) (by kernel_rfl) Tryd.ntmps105
  unfold kTwo at hr; split at hr
  · rename_i op
    have := ret_ok hr; subst this
    refine ⟨_, [], rfl, rfl, (argTwo op).mpr (by simp), rfl, (fun W R ρ0 own0 hown => noLoops (by kernel_rfl)), (runTwo gl op).mpr ?_⟩
    clear hr
    generalize op.val = op
    simp only [decide_eq_true_eq, decide_eq_false_iff_not]
    repeat (first | (intro h; subst h; rfl) | intro _ | refine ⟨?_, ?_⟩ | (simp [isaTwo, *]; done))
  · cases hr
def koperands : List SVal → Nat → Acc ORes := fun a n => match a with | [.int .i64 op] => .ret ({ v := .tuple [.int .i64 (.sym (kA op.val) 0 2), .int .i64 (.sym (kB op.val) 0 2), .int .i64 (.sym (kC op.val) 0 2)] }) | _ => .fail "operands"
theorem argoperands (op : SI) : (all (subL 134 none' [] deep [.int .i64 op] [.int .i64 (.full op.val)])) = (
  SI.val op = SI.val op) := by kernel_rfl
theorem runoperands (gl : List (Nat × SVal)) (op : SI) : (Tr.sat (plainQ (.tuple [.int .i64 (.sym (kA op.val) 0 2), .int .i64 (.sym (kB op.val) 0 2), .int .i64 (.sym (kC op.val) 0 2)])) (run (env gl []) [] (bodyOf Tryd.f104) (start [.int .i64 (.full op.val)] 46) (ends (env gl []) Tryd.f104.results.toList))) = (
  (decide (SI.val op = (14 : Int)) = true → (1 : Int) = kA (SI.val op) ∧ (0 : Int) = kB (SI.val op) ∧ (0 : Int) = kC (SI.val op)) ∧ (decide (SI.val op = (14 : Int)) = false → (decide (SI.val op = (15 : Int)) = true → (1 : Int) = kA (SI.val op) ∧ (0 : Int) = kB (SI.val op) ∧ (0 : Int) = kC (SI.val op)) ∧ (decide (SI.val op = (15 : Int)) = false → (decide (SI.val op = (20 : Int)) = true → (1 : Int) = kA (SI.val op) ∧ (0 : Int) = kB (SI.val op) ∧ (0 : Int) = kC (SI.val op)) ∧ (decide (SI.val op = (20 : Int)) = false → (decide (SI.val op = (21 : Int)) = true → (1 : Int) = kA (SI.val op) ∧ (0 : Int) = kB (SI.val op) ∧ (0 : Int) = kC (SI.val op)) ∧ (decide (SI.val op = (21 : Int)) = false → (decide (SI.val op = (23 : Int)) = true → (1 : Int) = kA (SI.val op) ∧ (0 : Int) = kB (SI.val op) ∧ (0 : Int) = kC (SI.val op)) ∧ (decide (SI.val op = (23 : Int)) = false → (decide (SI.val op = (32 : Int)) = true → (1 : Int) = kA (SI.val op) ∧ (0 : Int) = kB (SI.val op) ∧ (0 : Int) = kC (SI.val op)) ∧ (decide (SI.val op = (32 : Int)) = false → (decide (SI.val op = (33 : Int)) = true → (1 : Int) = kA (SI.val op) ∧ (0 : Int) = kB (SI.val op) ∧ (0 : Int) = kC (SI.val op)) ∧ (decide (SI.val op = (33 : Int)) = false → (decide (SI.val op = (35 : Int)) = true → (1 : Int) = kA (SI.val op) ∧ (0 : Int) = kB (SI.val op) ∧ (0 : Int) = kC (SI.val op)) ∧ (decide (SI.val op = (35 : Int)) = false → (decide (SI.val op = (36 : Int)) = true → (1 : Int) = kA (SI.val op) ∧ (0 : Int) = kB (SI.val op) ∧ (0 : Int) = kC (SI.val op)) ∧ (decide (SI.val op = (36 : Int)) = false → (decide (SI.val op = (39 : Int)) = true → (1 : Int) = kA (SI.val op) ∧ (0 : Int) = kB (SI.val op) ∧ (0 : Int) = kC (SI.val op)) ∧ (decide (SI.val op = (39 : Int)) = false → (decide (SI.val op = (40 : Int)) = true → (1 : Int) = kA (SI.val op) ∧ (0 : Int) = kB (SI.val op) ∧ (0 : Int) = kC (SI.val op)) ∧ (decide (SI.val op = (40 : Int)) = false → (decide (SI.val op = (43 : Int)) = true → (1 : Int) = kA (SI.val op) ∧ (0 : Int) = kB (SI.val op) ∧ (0 : Int) = kC (SI.val op)) ∧ (decide (SI.val op = (43 : Int)) = false → (decide (SI.val op = (44 : Int)) = true → (1 : Int) = kA (SI.val op) ∧ (0 : Int) = kB (SI.val op) ∧ (0 : Int) = kC (SI.val op)) ∧ (decide (SI.val op = (44 : Int)) = false → (decide (SI.val op = (66 : Int)) = true → (1 : Int) = kA (SI.val op) ∧ (0 : Int) = kB (SI.val op) ∧ (0 : Int) = kC (SI.val op)) ∧ (decide (SI.val op = (66 : Int)) = false → (decide (SI.val op = (67 : Int)) = true → (1 : Int) = kA (SI.val op) ∧ (0 : Int) = kB (SI.val op) ∧ (0 : Int) = kC (SI.val op)) ∧ (decide (SI.val op = (67 : Int)) = false → (decide (SI.val op = (2 : Int)) = true → (1 : Int) = kA (SI.val op) ∧ (1 : Int) = kB (SI.val op) ∧ (0 : Int) = kC (SI.val op)) ∧ (decide (SI.val op = (2 : Int)) = false → (decide (SI.val op = (37 : Int)) = true → (1 : Int) = kA (SI.val op) ∧ (1 : Int) = kB (SI.val op) ∧ (0 : Int) = kC (SI.val op)) ∧ (decide (SI.val op = (37 : Int)) = false → (decide (SI.val op = (38 : Int)) = true → (1 : Int) = kA (SI.val op) ∧ (1 : Int) = kB (SI.val op) ∧ (0 : Int) = kC (SI.val op)) ∧ (decide (SI.val op = (38 : Int)) = false → (decide (SI.val op = (41 : Int)) = true → (1 : Int) = kA (SI.val op) ∧ (1 : Int) = kB (SI.val op) ∧ (0 : Int) = kC (SI.val op)) ∧ (decide (SI.val op = (41 : Int)) = false → (decide (SI.val op = (3 : Int)) = true → (1 : Int) = kA (SI.val op) ∧ (1 : Int) = kB (SI.val op) ∧ (1 : Int) = kC (SI.val op)) ∧ (decide (SI.val op = (3 : Int)) = false → (decide (SI.val op = (4 : Int)) = true → (1 : Int) = kA (SI.val op) ∧ (1 : Int) = kB (SI.val op) ∧ (1 : Int) = kC (SI.val op)) ∧ (decide (SI.val op = (4 : Int)) = false → (decide (SI.val op = (5 : Int)) = true → (1 : Int) = kA (SI.val op) ∧ (1 : Int) = kB (SI.val op) ∧ (1 : Int) = kC (SI.val op)) ∧ (decide (SI.val op = (5 : Int)) = false → (decide (SI.val op = (6 : Int)) = true → (1 : Int) = kA (SI.val op) ∧ (1 : Int) = kB (SI.val op) ∧ (1 : Int) = kC (SI.val op)) ∧ (decide (SI.val op = (6 : Int)) = false → (decide (SI.val op = (7 : Int)) = true → (1 : Int) = kA (SI.val op) ∧ (1 : Int) = kB (SI.val op) ∧ (1 : Int) = kC (SI.val op)) ∧ (decide (SI.val op = (7 : Int)) = false → (decide (SI.val op = (8 : Int)) = true → (1 : Int) = kA (SI.val op) ∧ (1 : Int) = kB (SI.val op) ∧ (1 : Int) = kC (SI.val op)) ∧ (decide (SI.val op = (8 : Int)) = false → (decide (SI.val op = (9 : Int)) = true → (1 : Int) = kA (SI.val op) ∧ (1 : Int) = kB (SI.val op) ∧ (1 : Int) = kC (SI.val op)) ∧ (decide (SI.val op = (9 : Int)) = false → (decide (SI.val op = (10 : Int)) = true → (1 : Int) = kA (SI.val op) ∧ (1 : Int) = kB (SI.val op) ∧ (1 : Int) = kC (SI.val op)) ∧ (decide (SI.val op = (10 : Int)) = false → (decide (SI.val op = (11 : Int)) = true → (1 : Int) = kA (SI.val op) ∧ (1 : Int) = kB (SI.val op) ∧ (1 : Int) = kC (SI.val op)) ∧ (decide (SI.val op = (11 : Int)) = false → (decide (SI.val op = (24 : Int)) = true → (1 : Int) = kA (SI.val op) ∧ (1 : Int) = kB (SI.val op) ∧ (1 : Int) = kC (SI.val op)) ∧ (decide (SI.val op = (24 : Int)) = false → (decide (SI.val op = (12 : Int)) = true → (1 : Int) = kA (SI.val op) ∧ (1 : Int) = kB (SI.val op) ∧ (2 : Int) = kC (SI.val op)) ∧ (decide (SI.val op = (12 : Int)) = false → (decide (SI.val op = (13 : Int)) = true → (1 : Int) = kA (SI.val op) ∧ (1 : Int) = kB (SI.val op) ∧ (2 : Int) = kC (SI.val op)) ∧ (decide (SI.val op = (13 : Int)) = false → (decide (SI.val op = (16 : Int)) = true → (0 : Int) = kA (SI.val op) ∧ (0 : Int) = kB (SI.val op) ∧ (2 : Int) = kC (SI.val op)) ∧ (decide (SI.val op = (16 : Int)) = false → (decide (SI.val op = (17 : Int)) = true → (1 : Int) = kA (SI.val op) ∧ (0 : Int) = kB (SI.val op) ∧ (2 : Int) = kC (SI.val op)) ∧ (decide (SI.val op = (17 : Int)) = false → (decide (SI.val op = (18 : Int)) = true → (1 : Int) = kA (SI.val op) ∧ (0 : Int) = kB (SI.val op) ∧ (2 : Int) = kC (SI.val op)) ∧ (decide (SI.val op = (18 : Int)) = false → (0 : Int) = kA (SI.val op) ∧ (0 : Int) = kB (SI.val op) ∧ (0 : Int) = kC (SI.val op)))))))))))))))))))))))))))))))))))) := by kernel_rfl
set_option maxHeartbeats 4000000 in
theorem coperands : Con ea has gl 104 koperands := by
  refine plain_mk Tryd.func104 46 (con := []) trivial (fun hA hr hv => ?_) (by kernel_rfl) (by kernel_rfl) Tryd.ntmps104
  unfold koperands at hr; split at hr
  · rename_i op
    have := ret_ok hr; subst this
    refine ⟨_, [], rfl, rfl, (argoperands op).mpr (by simp), rfl, (fun W R ρ0 own0 hown => noLoops (by kernel_rfl)), (runoperands gl op).mpr ?_⟩
    clear hr
    generalize op.val = op
    simp only [decide_eq_true_eq, decide_eq_false_iff_not]
    repeat (first | (intro h; subst h; decide) | (with_reducible intro _) | (with_reducible refine ⟨fun _ => ?_, fun _ => ?_⟩) | (refine ⟨?_, ?_, ?_⟩ <;> (first | (unfold kA; repeat (split; try omega); try omega) |  (unfold kB; repeat (split; try omega); try omega) | (unfold kC; repeat (split; try omega); try omega))))
  · cases hr
def kfits : List SVal → Nat → Acc ORes := fun a n => match a with | [.int .i64 x, .int .i64 k] => .ret ({ v := .bool (.sym (fitsM x.val k.val)), vc := some (0 ≤ k.val ∧ k.val ≤ 2) }) | _ => .fail "fits"
theorem argfits (x k : SI) : (all (subL 134 none' [] deep [.int .i64 x, .int .i64 k] [.int .i64 (.full x.val), .int .i64 (.full k.val)])) = (
  SI.val x = SI.val x ∧ SI.val k = SI.val k) := by kernel_rfl
theorem runfits (gl : List (Nat × SVal)) (x k : SI) : (Tr.sat (plainQ (.bool (.sym (fitsM x.val k.val)))) (run (env gl []) [] (bodyOf Tryd.f106) (start [.int .i64 (.full x.val), .int .i64 (.full k.val)] 17) (ends (env gl []) Tryd.f106.results.toList))) = (
  ((0 : Int) ≤ SI.val k ∧ SI.val k < (↑(List.length [(0 : Int), (15 : Int), (255 : Int)]) : Int)) ∧ ((0 : Int) ≤ SI.val k ∧ SI.val k < (↑(List.length [(0 : Int), (15 : Int), (255 : Int)]) : Int) → (decide ((0 : Int) ≤ SI.val x) && decide (SI.val x ≤ List.getD [(0 : Int), (15 : Int), (255 : Int)] (Int.toNat (SI.val k)) (RT.dflt RT.i64))) = fitsM (SI.val x) (SI.val k))) := by kernel_rfl
set_option maxHeartbeats 4000000 in
theorem cfits : Con ea has gl 106 kfits := by
  refine plain_mk Tryd.func106 17 (con := []) trivial (fun hA hr hv => ?_) (by kernel_rfl) (by kernel_rfl) Tryd.ntmps106
  unfold kfits at hr; split at hr
  · rename_i x k
    have := ret_ok hr; subst this
    replace hv := hv _ rfl
    refine ⟨_, [], rfl, rfl, (argfits x k).mpr (by simp), rfl, (fun W R ρ0 own0 hown => noLoops (by kernel_rfl)), (runfits gl x k).mpr ?_⟩
    clear hr
    generalize x.val = x at *
    generalize k.val = k at *
    have : k = 0 ∨ k = 1 ∨ k = 2 := by omega
    rcases this with rfl | rfl | rfl <;> exact ⟨by decide, fun _ => rfl⟩
  · cases hr
def kWord : List SVal → Nat → Acc ORes := fun a n => match a with | [.agg [.int .i64 op, .int .i64 a, .int .i64 b, .int .i64 c, .int .u32 imm]] => .ret ({ v := .tuple [.int .u32 (.full (wordW op.val a.val b.val c.val imm.val)), .bool (.sym (wordOk op.val a.val b.val c.val imm.val))] }) | _ => .fail "Word"
theorem argWord (op a b c imm : SI) : (all (subL 134 none' [] deep [.agg [.int .i64 op, .int .i64 a, .int .i64 b, .int .i64 c, .int .u32 imm]] [.agg [.int .i64 (.full op.val), .int .i64 (.full a.val), .int .i64 (.full b.val), .int .i64 (.full c.val), .int .u32 (.full imm.val)]])) = (
  SI.val op = SI.val op ∧ SI.val a = SI.val a ∧ SI.val b = SI.val b ∧ SI.val c = SI.val c ∧ SI.val imm = SI.val imm) := by kernel_rfl
theorem runWord (gl : List (Nat × SVal)) (op a b c imm : SI) : (Tr.sat (plainQ (.tuple [.int .u32 (.full (wordW op.val a.val b.val c.val imm.val)), .bool (.sym (wordOk op.val a.val b.val c.val imm.val))])) (run (env gl [(59, kTables), (60, kClass), (105, kTwo), (104, koperands), (106, kfits)]) [] (bodyOf Tryd.f77) (start [.agg [.int .i64 (.full op.val), .int .i64 (.full a.val), .int .i64 (.full b.val), .int .i64 (.full c.val), .int .u32 (.full imm.val)]] 72) (ends (env gl [(59, kTables), (60, kClass), (105, kTwo), (104, koperands), (106, kfits)]) Tryd.f77.results.toList))) = (
  ((!decide (isaClass (SI.val op) = (0 : Int))) = true → (0 : Int) ≤ kA (SI.val op) ∧ kA (SI.val op) ≤ (2 : Int)) ∧ (((!decide (isaClass (SI.val op) = (0 : Int))) = true → (0 : Int) ≤ kA (SI.val op) ∧ kA (SI.val op) ≤ (2 : Int)) → ((!(decide (isaClass (SI.val op) = (0 : Int)) || !fitsM (SI.val a) (kA (SI.val op)))) = true → (0 : Int) ≤ kB (SI.val op) ∧ kB (SI.val op) ≤ (2 : Int)) ∧ (((!(decide (isaClass (SI.val op) = (0 : Int)) || !fitsM (SI.val a) (kA (SI.val op)))) = true → (0 : Int) ≤ kB (SI.val op) ∧ kB (SI.val op) ≤ (2 : Int)) → ((!(decide (isaClass (SI.val op) = (0 : Int)) || !fitsM (SI.val a) (kA (SI.val op)) || !fitsM (SI.val b) (kB (SI.val op)))) = true → (0 : Int) ≤ kC (SI.val op) ∧ kC (SI.val op) ≤ (2 : Int)) ∧ (((!(decide (isaClass (SI.val op) = (0 : Int)) || !fitsM (SI.val a) (kA (SI.val op)) || !fitsM (SI.val b) (kB (SI.val op)))) = true → (0 : Int) ≤ kC (SI.val op) ∧ kC (SI.val op) ≤ (2 : Int)) → ((decide (isaClass (SI.val op) = (0 : Int)) || !fitsM (SI.val a) (kA (SI.val op)) || !fitsM (SI.val b) (kB (SI.val op)) || !fitsM (SI.val c) (kC (SI.val op)) || !decide (SI.val imm = (0 : Int)) && !isaTwo (SI.val op)) = true → (0 : Int) = wordW (SI.val op) (SI.val a) (SI.val b) (SI.val c) (SI.val imm) ∧ false = wordOk (SI.val op) (SI.val a) (SI.val b) (SI.val c) (SI.val imm)) ∧ ((decide (isaClass (SI.val op) = (0 : Int)) || !fitsM (SI.val a) (kA (SI.val op)) || !fitsM (SI.val b) (kB (SI.val op)) || !fitsM (SI.val c) (kC (SI.val op)) || !decide (SI.val imm = (0 : Int)) && !isaTwo (SI.val op)) = false → bits BinOp.or IntKind.u32 (bits BinOp.or IntKind.u32 (bits BinOp.or IntKind.u32 (IntKind.wrap IntKind.u32 (IntKind.wrap IntKind.u32 (SI.val op) * (16777216 : Int))) (IntKind.wrap IntKind.u32 (IntKind.wrap IntKind.u32 (SI.val a) * (65536 : Int)))) (IntKind.wrap IntKind.u32 (IntKind.wrap IntKind.u32 (SI.val b) * (256 : Int)))) (IntKind.wrap IntKind.u32 (SI.val c)) = wordW (SI.val op) (SI.val a) (SI.val b) (SI.val c) (SI.val imm) ∧ true = wordOk (SI.val op) (SI.val a) (SI.val b) (SI.val c) (SI.val imm)))))) := by kernel_rfl
set_option maxHeartbeats 4000000 in
theorem cWord : Con ea has gl 77 kWord := by
  refine plain_mk Tryd.func77 72 (con := [(59, kTables), (60, kClass), (105, kTwo), (104, koperands), (106, kfits)]) ⟨cTables, cClass, cTwo, coperands, cfits, trivial⟩ (fun hA hr hv => ?_) (by kernel_rfl) (by kernel_rfl) Tryd.ntmps77
  unfold kWord at hr; split at hr
  · rename_i op a b c imm
    have := ret_ok hr; subst this
    refine ⟨_, [], rfl, rfl, (argWord op a b c imm).mpr (by simp), rfl, (fun W R ρ0 own0 hown => noLoops (by kernel_rfl)), (runWord gl op a b c imm).mpr ?_⟩
    clear hr
    clear hA hv
    generalize op.val = op
    generalize a.val = a
    generalize b.val = b
    generalize c.val = c
    generalize imm.val = imm
    have e : (decide (isaClass op = 0) || !fitsM a (kA op) || !fitsM b (kB op) || !fitsM c (kC op) || !decide (imm = 0) && !isaTwo op) = !wordOk op a b c imm := by
      unfold wordOk
      simp only [Bool.not_and, Bool.not_not, bne, Bool.not_or]
      rfl
    rw [e]
    have h1 := kA_in op
    have h2 := kB_in op
    have h3 := kC_in op
    refine ⟨fun _ => by omega, fun _ => ⟨fun _ => by omega, fun _ => ⟨fun _ => by omega, fun _ => ⟨fun h => ?_, fun h => ?_⟩⟩⟩⟩
    · have h : wordOk op a b c imm = false := by simpa using h
      rw [wordW, h]; exact ⟨rfl, rfl⟩
    · have h : wordOk op a b c imm = true := by simpa using h
      refine ⟨?_, h.symm⟩
      rw [wordW, if_pos h]
      have hw := h
      unfold wordOk at h
      simp only [Bool.and_eq_true, Bool.not_eq_true'] at h
      obtain ⟨⟨⟨⟨g1, g2⟩, g3⟩, g4⟩, _⟩ := h
      have := class_in g1
      simp only [IntKind.wrap_u32]
      exact word_bits (by omega) (fits_in g2) (fits_in g3) (fits_in g4)
  · cases hr
def kOf : List SVal → Nat → Acc ORes := fun a n => match a with | [.int .u32 w, .int .u32 imm] => .ret ({ v := .tuple [.agg (ofF w.val imm.val).enc, .bool (.sym (ofOk w.val))] }) | _ => .fail "Of"
theorem argOf (w imm : SI) : (all (subL 134 none' [] deep [.int .u32 w, .int .u32 imm] [.int .u32 (.full w.val), .int .u32 (.full imm.val)])) = (
  SI.val w = SI.val w ∧ SI.val imm = SI.val imm) := by kernel_rfl
theorem runOf (gl : List (Nat × SVal)) (w imm : SI) : (Tr.sat (plainQ (.tuple [.agg (ofF w.val imm.val).enc, .bool (.sym (ofOk w.val))])) (run (env gl [(59, kTables), (105, kTwo), (77, kWord)]) [] (bodyOf Tryd.f79) (start [.int .u32 (.full w.val), .int .u32 (.full imm.val)] 41) (ends (env gl [(59, kTables), (105, kTwo), (77, kWord)]) Tryd.f79.results.toList))) = (
  (isaTwo (SI.val w / (16777216 : Int)) = true → ((!wordOk (SI.val w / (16777216 : Int)) (SI.val w / (65536 : Int) % (256 : Int)) (SI.val w / (256 : Int) % (256 : Int)) (SI.val w % (256 : Int)) (SI.val imm)) = true → (0 : Int) = (ofF (SI.val w) (SI.val imm)).op ∧ (0 : Int) = (ofF (SI.val w) (SI.val imm)).a ∧ (0 : Int) = (ofF (SI.val w) (SI.val imm)).b ∧ (0 : Int) = (ofF (SI.val w) (SI.val imm)).c ∧ (0 : Int) = (ofF (SI.val w) (SI.val imm)).imm ∧ false = ofOk (SI.val w)) ∧ ((!wordOk (SI.val w / (16777216 : Int)) (SI.val w / (65536 : Int) % (256 : Int)) (SI.val w / (256 : Int) % (256 : Int)) (SI.val w % (256 : Int)) (SI.val imm)) = false → SI.val w / (16777216 : Int) = (ofF (SI.val w) (SI.val imm)).op ∧ SI.val w / (65536 : Int) % (256 : Int) = (ofF (SI.val w) (SI.val imm)).a ∧ SI.val w / (256 : Int) % (256 : Int) = (ofF (SI.val w) (SI.val imm)).b ∧ SI.val w % (256 : Int) = (ofF (SI.val w) (SI.val imm)).c ∧ SI.val imm = (ofF (SI.val w) (SI.val imm)).imm ∧ true = ofOk (SI.val w))) ∧ (isaTwo (SI.val w / (16777216 : Int)) = false → ((!wordOk (SI.val w / (16777216 : Int)) (SI.val w / (65536 : Int) % (256 : Int)) (SI.val w / (256 : Int) % (256 : Int)) (SI.val w % (256 : Int)) (0 : Int)) = true → (0 : Int) = (ofF (SI.val w) (SI.val imm)).op ∧ (0 : Int) = (ofF (SI.val w) (SI.val imm)).a ∧ (0 : Int) = (ofF (SI.val w) (SI.val imm)).b ∧ (0 : Int) = (ofF (SI.val w) (SI.val imm)).c ∧ (0 : Int) = (ofF (SI.val w) (SI.val imm)).imm ∧ false = ofOk (SI.val w)) ∧ ((!wordOk (SI.val w / (16777216 : Int)) (SI.val w / (65536 : Int) % (256 : Int)) (SI.val w / (256 : Int) % (256 : Int)) (SI.val w % (256 : Int)) (0 : Int)) = false → SI.val w / (16777216 : Int) = (ofF (SI.val w) (SI.val imm)).op ∧ SI.val w / (65536 : Int) % (256 : Int) = (ofF (SI.val w) (SI.val imm)).a ∧ SI.val w / (256 : Int) % (256 : Int) = (ofF (SI.val w) (SI.val imm)).b ∧ SI.val w % (256 : Int) = (ofF (SI.val w) (SI.val imm)).c ∧ (0 : Int) = (ofF (SI.val w) (SI.val imm)).imm ∧ true = ofOk (SI.val w)))) := by kernel_rfl
set_option maxHeartbeats 4000000 in
theorem cOf : Con ea has gl 79 kOf := by
  refine plain_mk Tryd.func79 41 (con := [(59, kTables), (105, kTwo), (77, kWord)]) ⟨cTables, cTwo, cWord, trivial⟩ (fun hA hr hv => ?_) (by kernel_rfl) (by kernel_rfl) Tryd.ntmps79
  unfold kOf at hr; split at hr
  · rename_i w imm
    have := ret_ok hr; subst this
    refine ⟨_, [], rfl, rfl, (argOf w imm).mpr (by simp), rfl, (fun W R ρ0 own0 hown => noLoops (by kernel_rfl)), (runOf gl w imm).mpr ?_⟩
    clear hr
    clear hA hv
    generalize w.val = w
    generalize imm.val = imm
    have e : wordOk (w / 16777216) (w / 65536 % 256) (w / 256 % 256) (w % 256) 0 = ofOk w := rfl
    refine ⟨fun h => ?_, fun h => ?_⟩
    · rw [ofOk_imm h, e]; cases hk : ofOk w <;> simp [ofF, hk, ofImm, h]
    · rw [e]; cases hk : ofOk w <;> simp [ofF, hk, ofImm, h]
  · cases hr
def krClass : List SVal → Nat → Acc ORes := fun a n => match a with | [.int .i64 op] => .ret ({ v := .int .i64 (.sym (isaClass op.val) 0 4) }) | _ => .fail "rClass"
theorem argrClass (op : SI) : (all (subL 134 none' [] deep [.int .i64 op] [.int .i64 (.full op.val)])) = (
  SI.val op = SI.val op) := by kernel_rfl
theorem runrClass (gl : List (Nat × SVal)) (op : SI) : (Tr.sat (plainQ (.int .i64 (.sym (isaClass op.val) 0 4))) (run (env gl []) [] (bodyOf Tryd.f19) (start [.int .i64 (.full op.val)] 27) (ends (env gl []) Tryd.f19.results.toList))) = (
  ((decide ((1 : Int) ≤ SI.val op) && decide (SI.val op ≤ (24 : Int))) = true → (1 : Int) = isaClass (SI.val op)) ∧ ((decide ((1 : Int) ≤ SI.val op) && decide (SI.val op ≤ (24 : Int))) = false → ((decide ((32 : Int) ≤ SI.val op) && decide (SI.val op ≤ (44 : Int))) = true → (2 : Int) = isaClass (SI.val op)) ∧ ((decide ((32 : Int) ≤ SI.val op) && decide (SI.val op ≤ (44 : Int))) = false → ((decide ((64 : Int) ≤ SI.val op) && decide (SI.val op ≤ (67 : Int))) = true → (3 : Int) = isaClass (SI.val op)) ∧ ((decide ((64 : Int) ≤ SI.val op) && decide (SI.val op ≤ (67 : Int))) = false → (decide (SI.val op = (96 : Int)) = true → (4 : Int) = isaClass (SI.val op)) ∧ (decide (SI.val op = (96 : Int)) = false → (0 : Int) = isaClass (SI.val op)))))) := by kernel_rfl
set_option maxHeartbeats 4000000 in
theorem crClass : Con ea has gl 19 krClass := by
  refine plain_mk Tryd.func19 27 (con := []) trivial (fun hA hr hv => ?_) (by kernel_rfl) (by kernel_rfl) Tryd.ntmps19
  unfold krClass at hr; split at hr
  · rename_i op
    have := ret_ok hr; subst this
    refine ⟨_, [], rfl, rfl, (argrClass op).mpr (by simp), rfl, (fun W R ρ0 own0 hown => noLoops (by kernel_rfl)), (runrClass gl op).mpr ?_⟩
    clear hr
    generalize op.val = op
    simp only [isaClass, Bool.and_eq_true, decide_eq_true_eq, Bool.and_eq_false_imp, decide_eq_false_iff_not]
    repeat (first | omega | split | intro _ | refine ⟨?_, ?_⟩)
  · cases hr
end
end Go.Proofs.YtbdfibaljoedpaaDoor

