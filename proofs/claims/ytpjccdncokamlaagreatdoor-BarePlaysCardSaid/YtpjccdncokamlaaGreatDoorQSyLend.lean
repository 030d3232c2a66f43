/- Contracts. -/
import Derived.Test.YtpjccdncokamlaaGreatDoorQE12
set_option linter.unusedVariables false
set_option linter.unusedSimpArgs false
namespace Go.Sy
open Go.RowKit
mutual
def namV : SVal → Bool
  | .int .. | .bool _ | .str _ | .nilptr | .nilslice | .nilIface | .nilFunc | .nilmap => true
  | .ptr _ _ | .own _ | .map _ => true
  | .arr t _ _ => pureR t
  | .agg l => namL l
  | .tuple l => namL l
  | .iface _ v => namV v
  | _ => false
def namL : List SVal → Bool
  | [] => true
  | s :: l => namV s && namL l
end
def namC : Option Cont → Bool
  | some (.cells l) => namL l
  | some (.recs t _) => pureR t
  | some (.row _ l) => namL l
  | some (.strMap _) => true
  | some (.intMap _) => true
  | none => false
def newWs (n k : Nat) : List (Nat × Option Cont) → Bool
  | [] => true
  | (m, c) :: l => Nat.ble n m && Nat.ble (m + 1) (n + k) && namC c && newWs n k l
def borN (ss : List Shp) (k : List SVal → Nat → Acc ORes) : List SVal → Nat → Acc ORes := fun a n =>
  nrmL ss a >>= fun p => hide p.2 (k p.1 n) >>= fun r => match newWs n r.k r.ws && namV r.v with
    | true => .ret r
    | false => .fail "lent"
section
variable {C : Ctx} {gl : List (Nat × SVal)} {W W' : World} {R R' : Nat → Prop} {ρ ρ' : Nat → Option Value} {h : Nat → Option Cont}
mutual
theorem namV_ok : ∀ {s : SVal} {v : Value}, Den C W R ρ s v → namV s = true → Den C W R' ρ s v
  | _, _, .int k n h, _ => .int k n h
  | _, _, .bool b, _ => .bool b
  | _, _, .str s h, _ => .str s h
  | _, _, .nilptr, _ => .nilptr
  | _, _, .nilslice, _ => .nilslice
  | _, _, .nilFunc, _ => .nilFunc
  | _, _, .nilIface, _ => .nilIface
  | _, _, .nilmap, _ => .nilmap
  | _, _, .ptr r off b h, _ => .ptr r off b h
  | _, _, .own r A n cap h, _ => .own r A n cap h
  | _, _, .map r b h, _ => .map r b h
  | _, _, .agg l vs h, hp => .agg l vs (namL_ok h (by unfold namV at hp; exact hp))
  | _, _, .arr t n xs vs h1 h2, hp => .arr t n xs vs h1 (pureL_ok h2 (flat_pure (by unfold namV at hp; exact hp) xs))
  | _, _, .tuple l vs h, hp => .tuple l vs (namA_ok h (by unfold namV at hp; exact hp))
  | _, _, .iface t s v h, hp => .iface t s v (namV_ok h (by unfold namV at hp; exact hp))
  | _, _, .any v, hp => (by unfold namV at hp; cases hp)
  | _, _, .eptr r w i j b n cap h h1 h2, hp => (by unfold namV at hp; cases hp)
  | _, _, .aptr r off w n i j b h h1 h2, hp => (by unfold namV at hp; cases hp)
  | _, _, .rop l vs b off h1 h2 h3, hp => (by unfold namV at hp; cases hp)
  | _, _, .view t r k n A A' m cap cap' h h1 h2 h3 h4 h5, hp => (by unfold namV at hp; cases hp)
  | _, _, .ro t l A cap vs h1 h2 h3 h4 h5, hp => (by unfold namV at hp; cases hp)
  | _, _, .roN t l A cap vs h1 h2 h3 h4, hp => (by unfold namV at hp; cases hp)
  | _, _, .func f l vs h, hp => (by unfold namV at hp; cases hp)
  | _, _, .bound f l vs h, hp => (by unfold namV at hp; cases hp)
  | _, _, .fine, hp => (by unfold namV at hp; cases hp)
  | _, _, .bare n h, hp => (by unfold namV at hp; cases hp)
  | _, _, .placed n p b off h1 h2 h3 h4 h5, hp => (by unfold namV at hp; cases hp)
  | _, _, .atp n p b off h1 h2 h3 h4 h5, hp => (by unfold namV at hp; cases hp)
  | _, _, .atnil e h, hp => (by unfold namV at hp; cases hp)
theorem namL_ok : ∀ {l : List SVal} {vs : List Value}, DenL C W R ρ l vs → namL l = true → DenL C W R' ρ l vs
  | _, _, .nil, _ => .nil
  | _, _, .one s v l vs h1 h2 h3 h4, hp => by
    unfold namL at hp
    rw [Bool.and_eq_true] at hp
    exact .one s v l vs h1 h2 (namV_ok h3 hp.1) (namL_ok h4 hp.2)
  | _, _, .arr t n xs us l vs h1 h2 h3, hp => by
    unfold namL at hp
    rw [Bool.and_eq_true] at hp
    exact .arr t n xs us l vs h1 (pureL_ok h2 (flat_pure (by have := hp.1; unfold namV at this; exact this) xs)) (namL_ok h3 hp.2)
theorem namA_ok : ∀ {l : List SVal} {vs : List Value}, DenA C W R ρ l vs → namL l = true → DenA C W R' ρ l vs
  | _, _, .nil, _ => .nil
  | _, _, .cons s v l vs h1 h2, hp => by
    unfold namL at hp
    rw [Bool.and_eq_true] at hp
    exact .cons s v l vs (namV_ok h1 hp.1) (namA_ok h2 hp.2)
end
theorem namC_ok {v : Value} {c : Cont} (hc : HoldC C W R ρ v c) (hn : namC (some c) = true) : HoldC C W R' ρ v c := by
  cases c with
  | cells l => obtain ⟨b, vs, T, e, hh, hl⟩ := hc; exact ⟨b, vs, T, e, hh, namL_ok hl hn⟩
  | recs t l => obtain ⟨e, vs, ho, hl⟩ := hc; exact ⟨e, vs, ho, pureL_ok hl (flat_pure hn l)⟩
  | row w l => obtain ⟨e, vs, n, ho, hl, h0⟩ := hc; exact ⟨e, vs, n, ho, namL_ok hl hn, h0⟩
  | strMap m => exact hc
  | intMap m => exact hc
theorem newWs_at {n k : Nat} : ∀ {ws : List (Nat × Option Cont)}, newWs n k ws = true → (∀ m ∈ keys ws, n ≤ m ∧ m < n + k) ∧ ∀ m c, find m ws = some c → namC c = true
  | [], _ => ⟨(fun m hm => by cases hm), fun m c h => by cases h⟩
  | (m, c) :: l, h => by
    unfold newWs at h
    simp only [Bool.and_eq_true] at h
    obtain ⟨⟨⟨h1, h2⟩, h3⟩, h4⟩ := h
    obtain ⟨g1, g2⟩ := newWs_at h4
    refine ⟨fun x hx => ?_, fun x c' hf => ?_⟩
    · simp only [keys, List.map_cons, List.mem_cons] at hx
      rcases hx with rfl | hx
      · exact ⟨Nat.le_of_ble_eq_true h1, Nat.le_of_ble_eq_true h2⟩
      · exact g1 x hx
    · simp only [find] at hf
      split at hf
      · cases hf; exact h3
      · exact g2 x c' hf
theorem Trans.lend (M : Mem C gl W R ρ h) {K : List Nat} (hK : ∀ q ∈ K, ∃ c, h q = some c) {ws : List (Nat × Option Cont)} (hnew : ∀ m ∈ keys ws, ρ m = none) (hnam : ∀ m c, find m ws = some c → namC c = true)
    (T : Trans C gl W (RK K ρ R) ρ (without h K) ws W' R' ρ') : Trans C gl W R ρ h ws W' R ρ' := by
  have vac : ∀ {r c v}, r ∈ keys ws → ρ r = some v → c → False := fun {r c v} hr hv _ => by rw [hnew r hr] at hv; cases hv
  have keep : ∀ k, k < W.heap.size → W'.heap[k]? = W.heap[k]? := fun k hk => T.keep k hk fun r c v h1 h2 h3 => (by rw [hnew r h1] at h3; cases h3)
  have kR : ∀ b, R b → W'.heap[b]? = W.heap[b]? := fun b hb => keep b (M.base.inR b hb)
  have one : ∀ {r c v b}, upd h ws r = some c → ρ' r = some v → blk v = some b → (find r ws = some (some c) ∧ W.heap.size ≤ b) ∨ (find r ws = none ∧ h r = some c ∧ ρ r = some v) := fun {r c v b} hu hv hb => by
    unfold upd at hu
    cases hf : find r ws with
    | some c0 =>
      rw [hf] at hu; simp only at hu; subst hu
      have hu' : upd (without h K) ws r = some c := by unfold upd; rw [hf]
      rcases T.owned r c v b hu' hv hb with ⟨r0, c0, v0, h1, h2, h3, h4⟩ | hs
      · exfalso
        rcases h1 with rfl | h1
        · exact vac (find_key hf) h3 True.intro
        · exact vac h1 h3 True.intro
      · exact .inl ⟨rfl, hs⟩
    | none =>
      rw [hf] at hu; simp only at hu
      obtain ⟨v', hv', _⟩ := M.at_ r c hu
      have := T.ρm _ _ hv'
      rw [hv] at this; cases this
      exact .inr ⟨rfl, hu, hv'⟩
  refine ⟨⟨M.base.mono (fun _ h => h) (fun b hb => Nat.lt_of_lt_of_le (M.base.inR b hb) T.size) kR, fun r c hu => ?_, fun r r' c c' v v' b h1 h2 h3 h4 h5 h6 => ?_, fun r c v b h1 h2 h3 hR => ?_⟩, T.os, T.tape, T.output, T.size, fun _ h => h, fun _ h => .inl h, T.ρm, T.ρn, fun k hk _ => keep k hk, fun r c v b h1 h2 h3 => ?_⟩
  · unfold upd at hu
    cases hf : find r ws with
    | some c0 =>
      rw [hf] at hu; simp only at hu; subst hu
      have hu' : upd (without h K) ws r = some c := by unfold upd; rw [hf]
      obtain ⟨v, hv, hh⟩ := T.mem.at_ r c hu'
      exact ⟨v, hv, namC_ok hh (hnam r _ hf)⟩
    | none =>
      rw [hf] at hu; simp only at hu
      obtain ⟨v, hv, hh⟩ := M.at_ r c hu
      exact ⟨v, T.ρm _ _ hv, hh.mono (fun _ h => h) kR T.ρm fun b hb => keep b (hh.lt hb)⟩
  · rcases one h1 h3 h5 with ⟨f1, o1⟩ | ⟨f1, o1, o1'⟩ <;> rcases one h2 h4 h6 with ⟨f2, o2⟩ | ⟨f2, o2, o2'⟩
    · have u1 : upd (without h K) ws r = some c := by unfold upd; rw [f1]
      have u2 : upd (without h K) ws r' = some c' := by unfold upd; rw [f2]
      exact T.mem.apart r r' c c' v v' b u1 u2 h3 h4 h5 h6
    · obtain ⟨v'', hv'', hh⟩ := M.at_ r' c' o2
      rw [o2'] at hv''; cases hv''
      have := hh.lt h6; omega
    · obtain ⟨v'', hv'', hh⟩ := M.at_ r c o1
      rw [o1'] at hv''; cases hv''
      have := hh.lt h5; omega
    · exact M.apart r r' c c' v v' b o1 o2 o1' o2' h5 h6
  · rcases one h1 h2 h3 with ⟨f1, o1⟩ | ⟨f1, o1, o1'⟩
    · have := M.base.inR b hR; omega
    · exact M.off r c v b o1 o1' h3 hR
  · rcases one h1 h2 h3 with ⟨f1, o1⟩ | ⟨f1, o1, o1'⟩
    · exact .inr o1
    · exact .inl ⟨r, c, v, .inl rfl, o1, o1', h3⟩
theorem borN_ok {P : Program} {f : Nat} {k : List SVal → Nat → Acc ORes} (K : ConOk P C gl f k) (ss : List Shp) : ConOk P C gl f (borN ss k) where
  call := K.call
  does {W R ρ h args vs next r l l'} M hA hr hv hn := by
    unfold borN at hr
    obtain ⟨⟨a', N⟩, l1, h1, h2⟩ := Acc.bind_ok hr
    obtain ⟨r0, l2, h3, h4⟩ := Acc.bind_ok h2
    split at h4
    · rename_i hp
      simp only [Acc.run, Except.ok.injEq, Prod.mk.injEq] at h4
      obtain ⟨rfl, _⟩ := h4
      rw [Bool.and_eq_true] at hp
      obtain ⟨g1, g2⟩ := newWs_at hp.1
      obtain ⟨hA', hN⟩ := (nrmL_ok M ss h1 N (fun _ h => h)).2 hA
      obtain ⟨l3, h5⟩ := hide_ok h3 []
      have hnew : ∀ m ∈ keys r0.ws, ρ m = none := fun m hm => by
        have := g1 m hm
        have := hn (m - next) (by omega)
        rwa [show next + (m - next) = m by omega] at this
      refine (K.does (M.freeze hN) hA' h5 hv hn).mono fun e W' ⟨v, R', ρ', e1, T, d⟩ => ⟨v, R, ρ', e1, T.lend M hN hnew g2, namV_ok d hp.2⟩
    · simp [Acc.run] at h4
end
end Go.Sy

