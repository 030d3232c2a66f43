/- Words that the proofs use, part 5. -/
import Derived.Test.YtacmmedhjebfjaaGreatDoorQE4
import Derived.IntWalk
import Derived.Laws.BitsLemmas
set_option linter.unusedVariables false
set_option linter.unusedSimpArgs false
namespace Go.Sy
theorem leB_iff {a b : Int} : leB a b = true ↔ a ≤ b := by
  unfold leB
  cases h : b - a with
  | ofNat n => have : b - a = (n : Int) := h; simp; omega
  | negSucc n => have : b - a = -((n : Int) + 1) := by rw [h]; exact Int.negSucc_eq n
                 simp; omega
theorem leB_false {a b : Int} (h : leB a b = false) : b < a := by
  have := (leB_iff (a := a) (b := b)).2
  by_cases hh : a ≤ b
  · rw [this hh] at h; cases h
  · omega
theorem eqI_iff {a b : Int} : eqI a b = decide (a = b) := by
  unfold eqI
  split
  · rename_i h; simp; have : a - b = 0 := h; omega
  · rename_i h; symm; simp; intro e; subst e; exact h (by simp)
theorem kEq_iff {k k' : IntKind} : kEq k k' = true ↔ k = k' := by cases k <;> cases k' <;> simp [kEq]
theorem wrap_lo (k : IntKind) (n : Int) : kmin k ≤ k.wrap n := by
  cases k <;> simp [IntKind.wrap, IntKind.bits, IntKind.signed, kmin] <;> (try split) <;> omega
theorem wrap_hi (k : IntKind) (n : Int) : k.wrap n ≤ kmax k := by
  cases k <;> simp [IntKind.wrap, IntKind.bits, IntKind.signed, kmax] <;> (try split) <;> omega
theorem wrap_in {k : IntKind} {n : Int} (h1 : kmin k ≤ n) (h2 : n ≤ kmax k) : k.wrap n = n := by
  cases k <;> simp [IntKind.wrap, IntKind.bits, IntKind.signed, kmin, kmax] at * <;> (try split) <;> omega
theorem InI.wrap (k : IntKind) (n : Int) : InI k (.full (k.wrap n)) := .full (wrap_lo k n) (wrap_hi k n)
theorem InI.litw (k : IntKind) (n : Int) : InI k (.lit (k.wrap n)) := ⟨wrap_lo k n, wrap_hi k n, Int.le_refl _, Int.le_refl _⟩
theorem inK_iff {k : IntKind} {lo hi : Int} (h : inK k lo hi = true) : kmin k ≤ lo ∧ hi ≤ kmax k := by
  unfold inK at h; simp at h; exact ⟨leB_iff.1 h.1, leB_iff.1 h.2⟩
theorem mkI_ok {k : IntKind} {n lo hi : Int} (h1 : lo ≤ n) (h2 : n ≤ hi) : (mkI k n lo hi).val = k.wrap n ∧ InI k (mkI k n lo hi) := by
  unfold mkI
  split
  · rename_i h
    obtain ⟨a, b⟩ := inK_iff h
    have e1 : kmin k ≤ n := by omega
    have e2 : n ≤ kmax k := by omega
    exact ⟨(wrap_in e1 e2).symm, e1, e2, h1, h2⟩
  · exact ⟨rfl, .wrap k n⟩
theorem mul_bounds {a b la ha lb hb : Int} (h0 : 0 ≤ la) (h1 : 0 ≤ lb) (h2 : la ≤ a) (h3 : a ≤ ha) (h4 : lb ≤ b) (h5 : b ≤ hb) : la * lb ≤ a * b ∧ a * b ≤ ha * hb :=
  ⟨Int.mul_le_mul h2 h4 h1 (by omega), Int.mul_le_mul h3 h5 (by omega) (by omega)⟩
theorem pow2_pos (n : Nat) : 0 < pow2 n := by
  induction n with
  | zero => decide
  | succ n ih => show 0 < 2 * pow2 n; omega
theorem pow2_eq (n : Nat) : pow2 n = 2 ^ n := by
  induction n with
  | zero => rfl
  | succ n ih => show 2 * pow2 n = _; rw [ih, Int.pow_succ, Int.mul_comm]
theorem maskOf_ok {y : Int} {j : Nat} (h : maskOf y = some j) : y = pow2 j - 1 ∧ (j = 1 ∨ j = 4 ∨ j = 5 ∨ j = 7 ∨ j = 8 ∨ j = 16 ∨ j = 31) := by
  unfold maskOf at h
  split at h <;> simp at h <;> subst h <;> exact ⟨by decide, by simp⟩
theorem bits_lo (op : BinOp) (k : IntKind) (a b : Int) : kmin k ≤ bits op k a b ∧ bits op k a b ≤ kmax k := by
  unfold bits; constructor
  · exact wrap_lo _ _
  · exact wrap_hi _ _
theorem InI.sym {k : IntKind} {n lo hi : Int} (h1 : kmin k ≤ n) (h2 : n ≤ kmax k) (h3 : lo ≤ n) (h4 : n ≤ hi) : InI k (.sym n lo hi) := ⟨h1, h2, h3, h4⟩
theorem and_pow2 (k : IntKind) (x : Int) (j : Nat) (hj : j = 1 ∨ j = 4 ∨ j = 5 ∨ j = 7 ∨ j = 8 ∨ j = 16 ∨ j = 31) (hk : pow2 j - 1 ≤ kmax k) : bits .and k x (pow2 j - 1) = x % pow2 j := by
  have hb : j ≤ k.bits := by rcases hj with rfl | rfl | rfl | rfl | rfl | rfl | rfl <;> cases k <;> revert hk <;> decide
  have hx : (BitVec.ofInt k.bits x &&& BitVec.ofInt k.bits (pow2 j - 1)).toNat = (x % pow2 j).toNat := by
    have e1 : (pow2 j - 1 : Int) = ((2 ^ j - 1 : Nat) : Int) := by rcases hj with rfl | rfl | rfl | rfl | rfl | rfl | rfl <;> decide
    rw [e1, BitVec.toNat_and, BitVec.ofInt_natCast, BitVec.toNat_ofNat, BitVec.toNat_ofInt]
    have hlt : 2 ^ j - 1 < 2 ^ k.bits := Nat.lt_of_lt_of_le (Nat.sub_lt (Nat.two_pow_pos j) (by decide)) (Nat.pow_le_pow_right (by decide) hb)
    rw [Nat.mod_eq_of_lt hlt, Nat.and_two_pow_sub_one_eq_mod]
    rw [pow2_eq]
    have h1 : (x % (2 : Int) ^ j) = ((x % ((2 ^ k.bits : Nat) : Int)) % (2 : Int) ^ j) := by
      have : ((2 : Int) ^ j) ∣ ((2 ^ k.bits : Nat) : Int) := by
        have : ((2 ^ k.bits : Nat) : Int) = (2 : Int) ^ k.bits := by norm_cast
        rw [this]; exact ⟨2 ^ (k.bits - j), by rw [← Int.pow_add]; congr 1; omega⟩
      rw [Int.emod_emod_of_dvd _ this]
    rw [h1]
    have h2 : 0 ≤ x % ((2 ^ k.bits : Nat) : Int) := Int.emod_nonneg _ (by have := Nat.two_pow_pos k.bits; omega)
    obtain ⟨m, hm⟩ := Int.eq_ofNat_of_zero_le h2
    rw [hm]
    have : ((2 : Int) ^ j) = ((2 ^ j : Nat) : Int) := by norm_cast
    rw [this]
    norm_cast
  have h0 : 0 ≤ x % pow2 j := Int.emod_nonneg _ (by have := pow2_pos j; omega)
  have h1 : x % pow2 j < pow2 j := Int.emod_lt_of_pos _ (pow2_pos j)
  have e : bits .and k x (pow2 j - 1) = k.wrap ((BitVec.ofInt k.bits x &&& BitVec.ofInt k.bits (pow2 j - 1)).toNat : Nat) := rfl
  rw [e, hx, Int.toNat_of_nonneg h0]
  exact wrap_in (by have : kmin k ≤ 0 := by cases k <;> decide
                    omega) (by omega)
theorem run_int (P : Program) (W : World) (op : BinOp) (t : Nat) (k : IntKind) (x y : Int) : (binOp op t (.int k x) (.int k y)).run P W =
    (match op with
      | .shl | .shr => Op.shift op k x k y
      | .add | .sub | .mul => Op.intArith op k x y
      | .quo | .rem => Op.intDiv op k x y
      | .and | .or | .xor | .andNot => Op.intBits op k x y
      | _ => Op.intCmp op x y).run P W := by
  cases op <;> simp [binOp]
theorem emod_le_pos {x y : Int} (h : 0 ≤ x) (hy : 0 < y) : x % y ≤ x := by
  have e := Int.mul_ediv_add_emod x y
  have h1 : 0 ≤ x / y := Int.ediv_nonneg h (by omega)
  have h2 : 0 ≤ y * (x / y) := Int.mul_nonneg (by omega) h1
  omega
theorem emod_le {x y : Int} (h : 0 ≤ x) : x % y ≤ x := by
  rcases Int.lt_trichotomy y 0 with hy | hy | hy
  · rw [← Int.emod_neg]; exact emod_le_pos h (by omega)
  · subst hy; simp
  · exact emod_le_pos h hy
theorem tdiv_nonneg {x y : Int} (hx : 0 ≤ x) : x.tdiv y = x / y := Int.tdiv_eq_ediv_of_nonneg hx
theorem tmod_range {k : IntKind} {x y : Int} (h1 : kmin k ≤ x) (h2 : x ≤ kmax k) : kmin k ≤ x.tmod y ∧ x.tmod y ≤ kmax k := by
  have h0 : kmin k ≤ 0 := by cases k <;> decide
  have h0' : 0 ≤ kmax k := by cases k <;> decide
  rcases Int.le_total 0 x with hx | hx
  · have a := Int.tmod_nonneg y hx
    have b : x.tmod y ≤ x := by
      rw [Int.tmod_eq_emod_of_nonneg hx]
      by_cases hy : y = 0
      · subst hy; simp
      · exact emod_le hx
    omega
  · have e : x.tmod y = -((-x).tmod y) := by rw [Int.neg_tmod]; omega
    have hx' : 0 ≤ -x := by omega
    have a := Int.tmod_nonneg y hx'
    have b : (-x).tmod y ≤ -x := by
      rw [Int.tmod_eq_emod_of_nonneg hx']
      by_cases hy : y = 0
      · subst hy; simp
      · exact emod_le hx'
    omega
theorem arithI_ok (P : Program) (W : World) (t : Nat) {op : BinOp} {k : IntKind} {a b n : SI} {p : Option Prop} (h : arithI op k a b = some (n, p)) (ha : InI k a) (hb : InI k b) (hp : ∀ q, p = some q → q) :
    (binOp op t (.int k a.val) (.int k b.val)).run P W = .ok (.int k n.val) W ∧ InI k n := by
  rw [run_int]
  have mk : ∀ {v lo hi : Int}, lo ≤ v → v ≤ hi → mkI k v lo hi = n → (Result.ok (Value.int k (k.wrap v)) W = .ok (.int k n.val) W ∧ InI k n) := fun h1 h2 e => by
    subst e; have := mkI_ok (k := k) h1 h2; exact ⟨by rw [this.1], this.2⟩
  have a1 := ha.lo'; have a2 := ha.hi'; have b1 := hb.lo'; have b2 := hb.hi'
  unfold arithI at h
  split at h <;> (try simp only [Option.some.injEq] at h)
  · split at h
    · cases h; exact ⟨rfl, .litw _ _⟩
    · cases h; exact mk (by omega) (by omega) rfl
  · split at h
    · cases h; exact ⟨rfl, .litw _ _⟩
    · cases h; exact mk (by omega) (by omega) rfl
  · split at h
    · cases h; exact ⟨rfl, .litw _ _⟩
    · split at h
      · rename_i hl
        simp only [Bool.and_eq_true, leB_iff] at hl
        cases h
        have := mul_bounds hl.1 hl.2 a1 a2 b1 b2
        exact mk this.1 this.2 rfl
      · cases h; exact ⟨rfl, .wrap _ _⟩
  · split at h
    · rename_i y hl
      have hl := leB_iff.1 hl
      cases h
      have e : (a.val).tdiv (Int.ofNat (y + 1)) = a.val / Int.ofNat (y + 1) := tdiv_nonneg (by omega)
      have h0 : (0 : Int) < Int.ofNat (y + 1) := by simp
      have h1 : 0 ≤ a.val / Int.ofNat (y + 1) := Int.ediv_nonneg (by omega) (by omega)
      have h2 : a.val / Int.ofNat (y + 1) ≤ a.val := Int.ediv_le_self _ (by omega)
      have hk : kmin k ≤ 0 := by cases k <;> decide
      have hk2 := ha.hi
      have hn : ¬ (Int.ofNat (y + 1) = 0) := by omega
      refine ⟨?_, .sym (by omega) (by omega) h1 (by omega)⟩
      show ((Op.intDiv .quo k a.val (Int.ofNat (y + 1))).run P W) = _
      simp only [Op.intDiv, hn, if_false, Sem.run_pure]
      show Result.ok (Value.int k (k.wrap (a.val.tdiv (Int.ofNat (y + 1))))) W = _
      rw [e, wrap_in (by omega) (by omega)]; rfl
    · cases h
      have hn := hp _ rfl
      exact ⟨by show (Op.intDiv .quo k a.val _).run P W = _; unfold Op.intDiv; rw [if_neg hn]; rfl, .wrap _ _⟩
  · split at h
    · rename_i y hl
      have hl := leB_iff.1 hl
      cases h
      have e : (a.val).tmod (Int.ofNat (y + 1)) = a.val % Int.ofNat (y + 1) := Int.tmod_eq_emod_of_nonneg (by omega)
      have h0 : (0 : Int) < Int.ofNat (y + 1) := by simp
      have h1 : 0 ≤ a.val % Int.ofNat (y + 1) := Int.emod_nonneg _ (by omega)
      have h2 : a.val % Int.ofNat (y + 1) < Int.ofNat (y + 1) := Int.emod_lt_of_pos _ h0
      have h3 : a.val % Int.ofNat (y + 1) ≤ a.val := emod_le (by omega)
      have hk : kmin k ≤ 0 := by cases k <;> decide
      have hk2 := ha.hi
      have hn : ¬ (Int.ofNat (y + 1) = 0) := by omega
      have hy : (Int.ofNat (y + 1) : Int) = Int.ofNat y + 1 := rfl
      refine ⟨?_, .sym (by omega) (by omega) h1 (by omega)⟩
      show ((Op.intDiv .rem k a.val (Int.ofNat (y + 1))).run P W) = _
      simp only [Op.intDiv, hn, if_false, Sem.run_pure]
      show Result.ok (Value.int k (a.val.tmod (Int.ofNat (y + 1)))) W = _
      rw [e]; rfl
    · cases h
      have hn := hp _ rfl
      exact ⟨by show (Op.intDiv .rem k a.val _).run P W = _; unfold Op.intDiv; rw [if_neg hn]; rfl, .full (tmod_range ha.lo ha.hi).1 (tmod_range ha.lo ha.hi).2⟩
  · split at h
    · split at h
      · rename_i y j hj
        cases h
        obtain ⟨rfl, hjj⟩ := maskOf_ok hj
        have hk : pow2 j - 1 ≤ kmax k := hb.hi
        have e := and_pow2 k a.val j hjj hk
        have h0 : 0 ≤ a.val % pow2 j := Int.emod_nonneg _ (by have := pow2_pos j; omega)
        have h1 : a.val % pow2 j < pow2 j := Int.emod_lt_of_pos _ (pow2_pos j)
        have hk0 : kmin k ≤ 0 := by cases k <;> decide
        exact ⟨by show (Op.intBits .and k a.val (pow2 j - 1)).run P W = _; rw [intBits_and, Sem.run_pure, e]; rfl, .sym (by omega) (by omega) h0 (by omega)⟩
      · cases h
        exact ⟨by rw [intBits_and, Sem.run_pure]; rfl, .full (bits_lo .and k a.val _).1 (bits_lo .and k a.val _).2⟩
    · cases h
      have := bits_lo .and k a.val b.val
      exact ⟨by rw [intBits_and, Sem.run_pure]; rfl, .full this.1 this.2⟩
  · cases h
    have := bits_lo .or k a.val b.val
    exact ⟨by rw [intBits_or, Sem.run_pure]; rfl, .full this.1 this.2⟩
  · cases h
    have := bits_lo .xor k a.val b.val
    exact ⟨by rw [intBits_xor, Sem.run_pure]; rfl, .full this.1 this.2⟩
  · cases h
    have := bits_lo .andNot k a.val b.val
    exact ⟨by rw [intBits_andNot, Sem.run_pure]; rfl, .full this.1 this.2⟩
  · cases h
theorem run_cmp (P : Program) (W : World) (op : BinOp) (t : Nat) (k : IntKind) (x y : Int) (b : Bool) (h : match op with
    | .eql => b = decide (x = y) | .neq => b = !decide (x = y) | .lss => b = decide (x < y) | .leq => b = decide (x ≤ y) | .gtr => b = decide (y < x) | .geq => b = decide (y ≤ x) | _ => False) :
    (binOp op t (.int k x) (.int k y)).run P W = .ok (.bool b) W := by
  cases op <;> simp only at h <;> subst h <;> first
    | rfl
    | (simp [binOp, Op.intCmp]; done)
    | (simp [binOp, Op.intCmp]; rw [Bool.eq_iff_iff]; simp)
theorem cmpI_ok (P : Program) (W : World) (t : Nat) {op : BinOp} {k : IntKind} {a b : SI} {c : SB} (h : cmpI op k a b = some c) (ha : InI k a) (hb : InI k b) :
    (binOp op t (.int k a.val) (.int k b.val)).run P W = .ok (.bool c.val) W := by
  have a1 := ha.lo'; have a2 := ha.hi'; have b1 := hb.lo'; have b2 := hb.hi'
  refine run_cmp P W op t k _ _ _ ?_
  unfold cmpI at h
  split at h <;> simp only [Option.some.injEq, reduceCtorEq] at h <;> subst h <;> (try simp only)
  · split
    · simp only [SB.val, SI.val]; exact eqI_iff
    · split
      · rename_i hh
        simp only [Bool.or_eq_true, leB_iff] at hh
        simp only [SB.val]; symm; simp; omega
      · rfl
  · split
    · simp only [SB.val, SI.val]; rw [eqI_iff]; try rfl
    · split
      · rename_i hh
        simp only [Bool.or_eq_true, leB_iff] at hh
        simp only [SB.val]; symm; simp; omega
      · rfl
  all_goals
    split
    · rename_i hh
      have hh := leB_iff.1 hh
      simp only [SB.val]; symm; simp; omega
    · rename_i hh _
      have hh := leB_iff.1 hh
      simp only [SB.val]; symm; simp; omega
    · rfl
theorem shiftI_ok (P : Program) (W : World) (t : Nat) {op : BinOp} {k k' : IntKind} {a b n : SI} {p : Option Prop} (h : shiftI op k a b = some (n, p)) (ha : InI k a) (hb : InI k' b) (hp : ∀ q, p = some q → q) :
    (binOp op t (.int k a.val) (.int k' b.val)).run P W = .ok (.int k n.val) W ∧ InI k n := by
  have a1 := ha.lo'; have a2 := ha.hi'
  have e1 : ∀ x y, (binOp .shl t (.int k x) (.int k' y)).run P W = (Op.shift .shl k x k' y).run P W := fun _ _ => rfl
  have e2 : ∀ x y, (binOp .shr t (.int k x) (.int k' y)).run P W = (Op.shift .shr k x k' y).run P W := fun _ _ => rfl
  have w64 : ∀ (x : Int) (n : Nat), k.wrap (x * 2 ^ min n k.bits) = k.wrap (x * pow2 n) := fun x n => by
    by_cases hn : n ≤ k.bits
    · rw [Nat.min_eq_left hn, pow2_eq]
    · rw [Nat.min_eq_right (by omega), pow2_eq]
      have e : (2 : Int) ^ n = 2 ^ k.bits * 2 ^ (n - k.bits) := by rw [← Int.pow_add]; congr 1; omega
      rw [e]
      have m1 : (x * 2 ^ k.bits) % (2 ^ k.bits : Int) = 0 := Int.mul_emod_left _ _
      have m2 : (x * (2 ^ k.bits * 2 ^ (n - k.bits))) % (2 ^ k.bits : Int) = 0 := by
        rw [← Int.mul_assoc, Int.mul_right_comm]; exact Int.mul_emod_left _ _
      unfold IntKind.wrap
      rw [m1, m2]
  have s1 : ∀ (x : Int) (m : Nat), (Op.shift .shl k x k' (m : Int)).run P W = .ok (.int k (k.wrap (x * 2 ^ min m k.bits))) W := fun x m => by
    unfold Op.shift; rw [if_neg (by omega)]; rfl
  have s2 : ∀ (x : Int) (m : Nat), (Op.shift .shr k x k' (m : Int)).run P W = .ok (.int k (x.fdiv (2 ^ min m k.bits))) W := fun x m => by
    unfold Op.shift; rw [if_neg (by omega)]; rfl
  unfold shiftI at h
  split at h
  · rename_i m
    split at h <;> simp only [Option.some.injEq, Prod.mk.injEq, reduceCtorEq] at h
    · rename_i hl hh
      have hh := leB_iff.1 hh
      obtain ⟨rfl, rfl⟩ := h
      have hpos := pow2_pos m
      have h1 : 0 ≤ a.val * pow2 m := Int.mul_nonneg (by omega) (by omega)
      have h2 : a.val * pow2 m ≤ a.hi k * pow2 m := Int.mul_le_mul_of_nonneg_right a2 (by omega)
      have := mkI_ok (k := k) h1 h2
      refine ⟨?_, this.2⟩
      rw [e1, this.1, ← w64]
      exact s1 _ _
    · obtain ⟨rfl, rfl⟩ := h
      refine ⟨?_, .wrap _ _⟩
      rw [e1]
      show _ = Result.ok (Value.int k (k.wrap (a.val * pow2 m))) W
      rw [← w64]
      exact s1 _ _
  · rename_i m
    have hz : ∀ (x : Int), (binOp .shr t (.int k x) (.int k' (SI.val (.lit (Int.ofNat m))))).run P W = .ok (.int k (x.fdiv (2 ^ (min m k.bits)))) W := fun x => by rw [e2]; exact s2 _ _
    split at h <;> simp only [Option.some.injEq, Prod.mk.injEq, reduceCtorEq] at h
    · rename_i hl hh
      have hh := leB_iff.1 hh
      have hl := Nat.le_of_ble_eq_true hl
      obtain ⟨rfl, rfl⟩ := h
      have hpos := pow2_pos m
      have e : (a.val).fdiv (2 ^ (min m k.bits)) = a.val / pow2 m := by
        rw [Nat.min_eq_left hl, pow2_eq]; exact Int.fdiv_eq_ediv_of_nonneg _ (by rw [← pow2_eq]; omega)
      have h1 : 0 ≤ a.val / pow2 m := Int.ediv_nonneg (by omega) (by omega)
      have h2 : a.val / pow2 m ≤ a.hi k / pow2 m := Int.ediv_le_ediv hpos a2
      have h3 : a.val / pow2 m ≤ a.val := Int.ediv_le_self _ (by omega)
      have hk : kmin k ≤ 0 := by cases k <;> decide
      have hk2 := ha.hi
      exact ⟨by rw [hz, e]; rfl, .sym (by omega) (by omega) h1 h2⟩
    · rename_i hl hh
      have hl := Nat.le_of_ble_eq_true hl
      obtain ⟨rfl, rfl⟩ := h
      have hpos := pow2_pos m
      have e : (a.val).fdiv (2 ^ (min m k.bits)) = a.val / pow2 m := by
        rw [Nat.min_eq_left hl, pow2_eq]; exact Int.fdiv_eq_ediv_of_nonneg _ (by rw [← pow2_eq]; omega)
      have hk : kmin k ≤ 0 := by cases k <;> decide
      have hk3 : 0 ≤ kmax k := by cases k <;> decide
      have hk1 := ha.lo
      have hk2 := ha.hi
      have r : kmin k ≤ a.val / pow2 m ∧ a.val / pow2 m ≤ kmax k := by
        rcases Int.le_total 0 a.val with h0 | h0
        · have h1 : 0 ≤ a.val / pow2 m := Int.ediv_nonneg (by omega) (by omega)
          have h3 : a.val / pow2 m ≤ a.val := Int.ediv_le_self _ (by omega)
          omega
        · have h1 : a.val ≤ a.val / pow2 m := by
            rw [Int.le_ediv_iff_mul_le hpos]
            have : a.val * pow2 m ≤ a.val * 1 := Int.mul_le_mul_of_nonpos_left h0 (by omega)
            omega
          have h3 : a.val / pow2 m ≤ 0 := by have := Int.ediv_le_ediv hpos h0; rwa [Int.zero_ediv] at this
          omega
      exact ⟨by rw [hz, e]; rfl, .full r.1 r.2⟩
  · simp only [Option.some.injEq, Prod.mk.injEq] at h
    obtain ⟨rfl, rfl⟩ := h
    have h0 := hp _ rfl
    refine ⟨?_, .wrap _ _⟩
    rw [e1]
    obtain ⟨m, hm⟩ := Int.eq_ofNat_of_zero_le h0
    rw [hm]; exact s1 _ _
  · split at h <;> simp only [Option.some.injEq, Prod.mk.injEq, reduceCtorEq] at h
    rename_i hh
    have hh := leB_iff.1 hh
    obtain ⟨rfl, rfl⟩ := h
    have h0 := hp _ rfl
    obtain ⟨m, hm⟩ := Int.eq_ofNat_of_zero_le h0
    have hpos : (0 : Int) < 2 ^ (min m k.bits) := Int.pow_pos (by decide)
    have hk : kmin k ≤ 0 := by cases k <;> decide
    have hk2 := ha.hi
    have h1 : 0 ≤ a.val / 2 ^ (min m k.bits) := Int.ediv_nonneg (by omega) (by omega)
    have h3 : a.val / 2 ^ (min m k.bits) ≤ a.val := Int.ediv_le_self _ (by omega)
    rw [hm]
    simp only [Int.toNat_natCast]
    refine ⟨?_, .full (by omega) (by omega)⟩
    rw [e2, s2]
    congr 2
    exact Int.fdiv_eq_ediv_of_nonneg _ (by omega)
  · cases h
end Go.Sy
