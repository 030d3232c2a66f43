/- An operation yields what 'sop' reckons: strings, maps, calls. -/
import Derived.Test.YtbdfibaljoedpaaDoorSySop
set_option linter.unusedVariables false
set_option linter.unusedSimpArgs false
namespace Go.Sy
open Go.RowKit

section
variable {P : Program} {C : Ctx} {gl : List (Nat × SVal)} {E : Env} {W : World} {R : Nat → Prop} {ρ : Nat → Option Value} {h : Nat → Option Cont} {o : Oper} {a : Act}
variable {ev : Operand → SVal} {next : Nat} {r : ORes} {l l' : List Nat}

theorem heap_new (w : World) (o : Obj) : (w.alloc o).heap[w.heap.size]? = some o := by
  show (w.heap.push o)[w.heap.size]? = some o
  simp
theorem DenL.drop_recs {t : RT} {l : List t.ty} {vs : List Value} (h : DenL C W R ρ (l.flatMap t.enc) vs) {i : Nat} (hi : i < l.length) :
    DenL C W R ρ (t.enc (l.getD i t.dflt) ++ (l.drop (i + 1)).flatMap t.enc) (vs.drop (i * t.w)) := by
  have e : l = l.take i ++ l.getD i t.dflt :: l.drop (i + 1) := by
    rw [List.getD_eq_getElem?_getD, List.getElem?_eq_getElem hi]; simp
  rw [e, List.flatMap_append, List.flatMap_cons] at h
  obtain ⟨a, b, rfl, ha, hb⟩ := h.split
  have la : a.length = i * t.w := by
    rw [ha.len_noarr (flat_noarr t _), flat_w, List.length_take, Nat.min_eq_left (Nat.le_of_lt hi)]
  rw [← la, List.drop_left]
  exact hb

variable {look : Nat → Option Cont}
theorem look_ok {α : Type} {q : Nat} {f : Option Cont → Acc α} {look : Nat → Option Cont} {l l' : List Nat} {x : α} (h : (Acc.look q f).run look l = .ok (x, l')) : ∃ l1, (f (look q)).run look l1 = .ok (x, l') := by
  simp only [Acc.run] at h
  exact ⟨_, h⟩

theorem sop_lookup (S : Sit P C gl E W R ρ h o a ev next r l l') {t m k ok} (hop : o.op = .lookup t m k ok) : Yields P C gl o a W R ρ h r := by
  obtain ⟨EO, M, hev, hr, hp, hn⟩ := S
  unfold sop at hr; rw [hop] at hr; simp only at hr
  obtain ⟨ti, l1, h1, h2⟩ := Acc.bind_ok hr
  obtain ⟨d, d1, d2⟩ := (ti_ok EO h1).d
  split at h2
  · rename_i kt vt htd
    rw [htd] at d2
    have d2 : d = .map kt vt := d2
    subst d2
    obtain ⟨ki, l2, h3, h4⟩ := Acc.bind_ok h2
    obtain ⟨vi, l3, h5, h6⟩ := Acc.bind_ok h4
    obtain ⟨dk, k1, k2⟩ := (ti_ok EO h3).d
    obtain ⟨inf, z, i1, i2, i3, i4, i5, i6, _⟩ := (ti_ok EO h5).i
    have hm := hev m
    have hk := hev k
    obtain ⟨vm, hvm⟩ : ∃ v, a.eval m = v := ⟨_, rfl⟩
    rw [hvm] at hm
    split at h6
    · rename_i r0 s hki hz em ek
      have hz0 := i6 C W R ρ
      rw [hz] at hz0
      obtain ⟨rfl, _⟩ := hz0.int_inv
      rw [em] at hm; rw [ek] at hk
      obtain ⟨l4, h7⟩ := look_ok h6
      split at h7
      · rename_i mm hc
        have := ret_ok h7; subst this
        cases hm with
        | map _ b hb =>
          obtain ⟨v', hv', b', es, clock, e1, e2, e3, e4⟩ := M.at_ _ _ hc
          rw [hb] at hv'; cases hv'
          cases e1
          obtain ⟨es1, es2⟩ := hk.str_inv
          rw [hki] at k2
          have k2 : dk = .string := k2
          subst k2
          have := lookup_ok (P := P) (key := Value.string) (k := s) d1 k1 (.inl rfl) i1 (by rw [i4]; rfl) (fun a => same_str s a) e2 e3
          have g := get_mem (k := s) e4
          refine Yields.pure (s := Instr.lookup t (a.eval m) (a.eval k) false) M (by unfold execOp; rw [hop]) ⟨_, by rw [hvm, es1]; exact this, ?_, rfl, rfl⟩
          exact .int .i64 (.full _) ⟨g.1, g.2, g.1, g.2⟩
      · cases h7
    · rename_i r0 n hki hz em ek
      have hz0 := i6 C W R ρ
      rw [hz] at hz0
      obtain ⟨rfl, _⟩ := hz0.int_inv
      rw [em] at hm; rw [ek] at hk
      obtain ⟨l4, h7⟩ := look_ok h6
      split at h7
      · rename_i mm hc
        have := ret_ok h7; subst this
        cases hm with
        | map _ b hb =>
          obtain ⟨v', hv', b', es, clock, e1, e2, e3, e4⟩ := M.at_ _ _ hc
          rw [hb] at hv'; cases hv'
          cases e1
          obtain ⟨es1, es2⟩ := hk.int_inv
          rw [hki] at k2
          have k2 : dk = .int .i64 := k2
          subst k2
          have := lookup_ok (P := P) (key := Value.int .i64) (k := n.val) d1 k1 (.inr rfl) i1 (by rw [i4]; rfl) (fun a => same_int n.val a) e2 e3
          have g := get_mem (k := n.val) e4
          refine Yields.pure (s := Instr.lookup t (a.eval m) (a.eval k) false) M (by unfold execOp; rw [hop]) ⟨_, by rw [hvm, es1]; exact this, ?_, rfl, rfl⟩
          exact .int .i64 (.full _) ⟨g.1, g.2, g.1, g.2⟩
      · cases h7
    · cases h6
  · cases h2

theorem sop_mapUpdate (S : Sit P C gl E W R ρ h o a ev next r l l') {t m k x} (hop : o.op = .mapUpdate t m k x) : Yields P C gl o a W R ρ h r := by
  obtain ⟨EO, M, hev, hr, hp, hn⟩ := S
  unfold sop at hr; rw [hop] at hr; simp only at hr
  obtain ⟨ti, l1, h1, h2⟩ := Acc.bind_ok hr
  obtain ⟨d, d1, d2⟩ := (ti_ok EO h1).d
  split at h2
  · rename_i kt vt htd
    rw [htd] at d2
    have d2 : d = .map kt vt := d2
    subst d2
    obtain ⟨ki, l2, h3, h4⟩ := Acc.bind_ok h2
    obtain ⟨dk, k1, k2⟩ := (ti_ok EO h3).d
    have hm := hev m
    have hk := hev k
    have hx := hev x
    obtain ⟨vm, hvm⟩ : ∃ v, a.eval m = v := ⟨_, rfl⟩
    rw [hvm] at hm
    split at h4
    · rename_i r0 s n hki em ek ex
      rw [em] at hm; rw [ek] at hk; rw [ex] at hx
      obtain ⟨l4, h7⟩ := look_ok h4
      split at h7
      · rename_i mm hc
        have := ret_ok h7; subst this
        cases hm with
        | map _ b hb =>
          obtain ⟨v', hv', b', es, clock, e1, e2, e3, e4⟩ := M.at_ _ _ hc
          rw [hb] at hv'; cases hv'
          cases e1
          obtain ⟨es1, es2⟩ := hk.str_inv
          obtain ⟨ex1, ex2⟩ := hx.int_inv
          rw [hki] at k2
          have k2 : dk = .string := k2
          subst k2
          obtain ⟨es', clock', u1, u2⟩ := update_ok (P := P) (key := Value.string) (k := s) (x := n.val) d1 k1 (.inl rfl) (fun a => same_str s a) (by simp [Instr.sameBits, (beq_bytes _ _).2]) e2 e3
          refine Yields.unit (by unfold execOp; rw [hop]) ⟨_, ρ, by rw [hvm, es1, ex1]; exact u1, ?_⟩ rfl
          have hlt : b < W.heap.size := (Array.getElem?_eq_some_iff.1 e2).1
          refine Trans.write M hc hb rfl rfl rfl rfl (by simp) (fun k hk => by simp [Array.getElem?_setIfInBounds, Ne.symm hk]) fun _ => ⟨b, es', clock', rfl, by simp [Array.getElem?_setIfInBounds, hlt], u2, put_mem e4 ⟨ex2.lo, ex2.hi⟩⟩
      · cases h7
    · rename_i r0 s n hki em ek ex
      rw [em] at hm; rw [ek] at hk; rw [ex] at hx
      obtain ⟨l4, h7⟩ := look_ok h4
      split at h7
      · rename_i mm hc
        have := ret_ok h7; subst this
        cases hm with
        | map _ b hb =>
          obtain ⟨v', hv', b', es, clock, e1, e2, e3, e4⟩ := M.at_ _ _ hc
          rw [hb] at hv'; cases hv'
          cases e1
          obtain ⟨es1, es2⟩ := hk.int_inv
          obtain ⟨ex1, ex2⟩ := hx.int_inv
          rw [hki] at k2
          have k2 : dk = .int .i64 := k2
          subst k2
          obtain ⟨es', clock', u1, u2⟩ := update_ok (P := P) (key := Value.int .i64) (k := s.val) (x := n.val) d1 k1 (.inr rfl) (fun a => same_int s.val a) (by simp [Instr.sameBits, (beq_bytes _ _).2]) e2 e3
          refine Yields.unit (by unfold execOp; rw [hop]) ⟨_, ρ, by rw [hvm, es1, ex1]; exact u1, ?_⟩ rfl
          have hlt : b < W.heap.size := (Array.getElem?_eq_some_iff.1 e2).1
          refine Trans.write M hc hb rfl rfl rfl rfl (by simp) (fun k hk => by simp [Array.getElem?_setIfInBounds, Ne.symm hk]) fun _ => ⟨b, es', clock', rfl, by simp [Array.getElem?_setIfInBounds, hlt], u2, put_mem e4 ⟨ex2.lo, ex2.hi⟩⟩
      · cases h7
    · cases h4
  · cases h2

theorem sop_makeMap (S : Sit P C gl E W R ρ h o a ev next r l l') {t n} (hop : o.op = .makeMap t n) : Yields P C gl o a W R ρ h r := by
  obtain ⟨EO, M, hev, hr, hp, hn⟩ := S
  unfold sop at hr; rw [hop] at hr; simp only at hr
  obtain ⟨ti, l1, h1, h2⟩ := Acc.bind_ok hr
  obtain ⟨d, d1, d2⟩ := (ti_ok EO h1).d
  have hb : blk (.map (some W.heap.size)) = some W.heap.size := rfl
  split at h2
  · obtain ⟨ki, l2, h3, h4⟩ := Acc.bind_ok h2
    split at h4
    · have := ret_ok h4; subst this
      refine Yields.make (s := Instr.makeMap t none) (by unfold execOp; rw [hop]; rfl) ⟨.map (some W.heap.size), W.alloc (.map #[] 0), bindN ρ next (.map (some W.heap.size)), ?_, ?_, ?_⟩
      · rfl
      · exact Trans.new M (hn 0 Nat.one_pos) _ _ _ hb fun _ => ⟨_, #[], 0, rfl, heap_new W _, rfl, fun p hp => by cases hp⟩
      · exact .map _ _ bindN_at
    · have := ret_ok h4; subst this
      refine Yields.make (s := Instr.makeMap t none) (by unfold execOp; rw [hop]; rfl) ⟨.map (some W.heap.size), W.alloc (.map #[] 0), bindN ρ next (.map (some W.heap.size)), ?_, ?_, ?_⟩
      · rfl
      · exact Trans.new M (hn 0 Nat.one_pos) _ _ _ hb fun _ => ⟨_, #[], 0, rfl, heap_new W _, rfl, fun p hp => by cases hp⟩
      · exact .map _ _ bindN_at
    · cases h4
  · cases h2

theorem sop_index (S : Sit P C gl E W R ρ h o a ev next r l l') {t x i} (hop : o.op = .index t x i) : Yields P C gl o a W R ρ h r := by
  obtain ⟨EO, M, hev, hr, hp, hn⟩ := S
  unfold sop at hr; rw [hop] at hr; simp only at hr
  have hx := hev x
  have hi := hev i
  obtain ⟨vx, hvx⟩ : ∃ v, a.eval x = v := ⟨_, rfl⟩
  rw [hvx] at hx
  split at hr
  · rename_i u n xs k i0 ex ei0
    rw [ex] at hx; rw [ei0] at hi
    obtain ⟨e1, e2⟩ := hi.int_inv
    obtain ⟨ti, l1, h1, h2⟩ := Acc.bind_ok hr
    obtain ⟨d, d1, d2⟩ := (ti_ok EO h1).d
    split at h2
    · rename_i m e htd
      rw [htd] at d2
      have d2 : d = .array m e := d2
      subst d2
      obtain ⟨ei, l2, h3, h4⟩ := Acc.bind_ok h2
      split at h4
      · rename_i hb
        have hb := beq_ok hb
        split at h4
        · rename_i hb2
          have hb2 := beq_ok hb2
          obtain ⟨v, l3, h5, h6⟩ := Acc.bind_ok h4
          have := ret_ok h6; subst this
          have hc := hp _ rfl
          cases hx with
          | arr _ _ _ us hlen hh =>
            obtain ⟨inf, z, i1, i2, _⟩ := (ti_ok EO h3).i
            have hd := hh.drop_recs (i := i0.val.toNat) (by omega)
            have hs : (sizeOf e).run P W = .ok ei.size W := by rw [run_siz i1, i2]
            obtain ⟨w, w1, w2⟩ := part_ok (P := P) (ti_ok EO h3) hd h5
            refine Yields.pure (s := Instr.index t (a.eval x) (a.eval i)) M (by unfold execOp; rw [hop]) ⟨w, ?_, w2, rfl, rfl⟩
            rw [hvx, e1]
            subst hb2
            have h0 : 0 ≤ i0.val ∧ i0.val < (m : Int) := hc
            simp [Instr.index, run_und d1, asIntOf, h0, hs, hb, w1]
        · cases h4
      · cases h4
    · cases h2
  · rename_i s k i0 ex ei0
    rw [ex] at hx; rw [ei0] at hi
    obtain ⟨e1, e2⟩ := hi.int_inv
    obtain ⟨e3, e4⟩ := hx.str_inv
    obtain ⟨ti, l1, h1, h2⟩ := Acc.bind_ok hr
    obtain ⟨d, d1, d2⟩ := (ti_ok EO h1).d
    split at h2
    · rename_i htd
      rw [htd] at d2
      have d2 : d = .string := d2
      subst d2
      have := ret_ok h2; subst this
      have hc : 0 ≤ i0.val ∧ i0.val < (s.size : Int) := hp _ rfl
      have hlt : i0.val.toNat < s.size := by omega
      refine Yields.pure (s := Instr.index t (a.eval x) (a.eval i)) M (by unfold execOp; rw [hop]) ⟨.int .u8 ((s.data.toList.getD i0.val.toNat 0).toNat : Nat), ?_, ?_, rfl, rfl⟩
      · rw [hvx, e3, e1]
        have : s[i0.val.toNat]? = some (s.data.toList.getD i0.val.toNat 0) := by
          rw [getElem?_pos s _ hlt]
          have hl : i0.val.toNat < s.data.toList.length := by simpa using hlt
          rw [List.getD_eq_getElem?_getD, List.getElem?_eq_getElem hl]
          simp [ByteArray.getElem_eq_getElem_data]
          done
        simp [Instr.index, run_und d1, asIntOf, hc, this, ByteArray.getElem_eq_getElem_data]
      · have hm := (s.data.toList.getD i0.val.toNat 0).toNat_lt
        generalize (s.data.toList.getD i0.val.toNat 0).toNat = m at hm ⊢
        have hm : m < 256 := hm
        exact .int .u8 (.sym _ _ _) ⟨by show (0 : Int) ≤ (m : Int); omega, by show (m : Int) ≤ (255 : Int); omega, by show (0 : Int) ≤ (m : Int); omega, by show (m : Int) ≤ (255 : Int); omega⟩
    · cases h2
  · cases hr

theorem append_k {t t' : Nat} {s x : SVal} {next : Nat} (h : (appendS E t t' s x next).run look l = .ok (r, l')) : 0 < r.k := by
  unfold appendS at h
  obtain ⟨ti, l1, h1, h2⟩ := Acc.bind_ok h
  split at h2
  · obtain ⟨ei, l2, h3, h4⟩ := Acc.bind_ok h2
    split at h4
    · obtain ⟨⟨u', new⟩, l3, h5, h6⟩ := Acc.bind_ok h4
      simp only at h6
      split at h6
      · split at h6
        · have := ret_ok h6; subst this; exact Nat.one_pos
        · obtain ⟨l4, h7⟩ := look_ok h6
          split at h7
          · split at h7
            · have := ret_ok h7; subst this; exact Nat.one_pos
            · cases h7
          · cases h7
        · cases h6
      · cases h6
    · cases h4
  · cases h2

theorem sop_call (S : Sit P C gl E W R ρ h o a ev next r l l') {c} (hop : o.op = .call c) : Yields P C gl o a W R ρ h r := by
  obtain ⟨EO, M, hev, hr, hp, hn⟩ := S
  unfold sop at hr; rw [hop] at hr; simp only at hr
  split at hr
  · rename_i b hb
    have he : ∀ s, (∀ cs, invoke (.builtin b c.argTypes o.type cs) (c.args.map a.eval) = (do pure (Next.value (← s)))) → execOp a.eval o = (do pure (Next.value (← s))) := fun s e => by
      unfold execOp; rw [hop]; simp [resolve, hb]; exact e _
    have hargs := args_of hev c.args.toList
    unfold builtinS at hr
    split at hr
    · rename_i t x ht ha
      rw [ha] at hargs
      obtain ⟨ti, l1, h1, h2⟩ := Acc.bind_ok hr
      obtain ⟨n, l2, h3, h4⟩ := Acc.bind_ok h2
      obtain ⟨d, d1, d2⟩ := (ti_ok EO h1).d
      have et : c.argTypes = #[t] := by rw [← Array.toList_inj]; exact ht
      generalize hvs : c.args.toList.map a.eval = vs at hargs
      cases hargs with
      | cons _ v _ us hx hr' =>
        cases hr'
        have ea : c.args.map a.eval = #[v] := by rw [arr_map, hvs]
        have go : (∃ e, d = .slice e) ∨ d = .string → (∀ s, x = .str s → d = .string) → (∀ t n l, x ≠ .arr t n l) → ((∀ s, x ≠ .str s) → ∃ e, d = .slice e) → r = { v := .int .i64 n } → Yields P C gl o a W R ρ h r := fun g1 g2 g4 g5 g3 => by
          subst g3
          obtain ⟨q1, q2⟩ := len_ok (P := P) M d1 g1 hx h3 g2 g4 g5 (ty := o.type)
          refine Yields.pure (s := Builtin.len_ #[t] o.type #[v]) M (he _ fun cs => ?_) ⟨_, q1, .int .i64 n q2, rfl, rfl⟩
          rw [et, ea]; rfl
        split at h4
        · cases h4
        · rename_i htd
          rw [htd] at d2
          have d2 : d = .string := d2
          exact go (.inr d2) (fun _ _ => d2) (fun _ _ _ e => by cases e) (fun e => (e _ rfl).elim) (ret_ok h4).symm
        · cases h4
        · rename_i e htd g1 g2
          rw [htd] at d2
          have d2 : d = .slice e := d2
          exact go (.inl ⟨e, d2⟩) (fun s e => (g2 s e).elim) (fun t n l e => g1 t n l e) (fun _ => ⟨e, d2⟩) (ret_ok h4).symm
        · cases h4
    · rename_i t t' s x ht ha
      rw [ha] at hargs
      have et : c.argTypes = #[t, t'] := by rw [← Array.toList_inj]; exact ht
      generalize hvs : c.args.toList.map a.eval = vs at hargs
      cases hargs with
      | cons _ v _ us hx hr' =>
        cases hr' with
        | cons _ v' _ us' hx' hr'' =>
          cases hr''
          have ea : c.args.map a.eval = #[v, v'] := by rw [arr_map, hvs]
          have hk : 0 < r.k := append_k hr
          refine Yields.make (s := Builtin.append_ #[t, t'] o.type #[v, v']) (he _ fun cs => ?_) (append_ok (P := P) M EO.tab hx hx' (hn 0 hk) hr hp)
          rw [et, ea]; rfl
    · cases hr
  · rename_i f hf
    have hx := hev f
    obtain ⟨vf, hvf⟩ : ∃ v, a.eval f = v := ⟨_, rfl⟩
    rw [hvf] at hx
    split at hr
    · rename_i g cap hg
      rw [hg] at hx
      split at hr
      · rename_i k hk
        have K := EO.con _ _ hk
        cases hx with
        | func _ _ vs hcap =>
          have hd := (args_of hev c.args.toList).app hcap
          have := K.does M hd hr hp hn
          intro KK Q hK
          unfold Oper.wp
          have he : execOp a.eval o = callFunc g (c.args.toList.map a.eval ++ vs).toArray := by
            unfold execOp; rw [hop]
            simp [resolve, hf, hvf, Deferred.ofValue, invoke]
            rw [arr_map]; simp
          rw [he, K.call, Oper.upon_enter]
          refine this.mono fun e W' hh => ?_
          obtain ⟨v, R', ρ', rfl, t1, t2⟩ := hh
          exact hK _ _ _ _ t1 t2
      · cases hr
    · cases hr
  · cases hr
end
end Go.Sy
