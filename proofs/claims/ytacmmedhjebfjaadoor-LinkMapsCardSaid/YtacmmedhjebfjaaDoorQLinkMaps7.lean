/- Contracts that the proofs use. -/
import Derived.Test.YtacmmedhjebfjaaDoorQLinkMaps6
import Derived.Test.YtacmmedhjebfjaaDoorRows
set_option linter.unusedVariables false
set_option linter.unusedSimpArgs false
namespace Go.Proofs.YtacmmedhjebfjaaDoor
open Go.RowKit Go.Sy Go.Fac
theorem wdL_get (l : List Ob) (g : Glb) (o a d : Int) : ∀ m i, i < m → (wdL l g o a m).getD i d = wdV l g o (a + i)
 | 0, i, h => by omega
 | m + 1, i, h => by
  rw [wdL]
  by_cases e : i = m
  ·subst e
   have := getD_one (wdL l g o a i) (wdV l g o (a + i)) d
   rw [wdL_len] at this; exact this
  ·rw [getD_app_l _ _ _ (by rw [wdL_len]; omega)]; exact wdL_get l g o a d m i (by omega)
def NoData (l : List Ob) (g : Glb) : Prop := ∀ i, i < l.length → toO l g i = false
theorem NoData.at_ {l : List Ob} {g : Glb} (T : NoData l g) (G : NmG l g) {o k : Nat} (ho : o < l.length) (hk : k < (obN l o).crels.length) (hj : jumpsB (obN l o).code (obN l o).map (relN l o k).at_ (relN l o k).kind = true) :
  Own l (realM l g o (relN l o k).sym) ∧ (symAt l (realM l g o (relN l o k).sym).1 (realM l g o (relN l o k).sym).2).in_ = 2 := by
 have h := T o ho
 unfold toO at h
 rw [decide_eq_false_iff_not, Decidable.not_not] at h
 have h := idxM_all h k hk
 unfold toB at h
 rw [hj, Bool.true_and, decide_eq_false_iff_not] at h
 obtain ⟨_, _, c3, c4, _⟩ := (G.val o ho).crel hk _ rfl
 have O := G.own ho c3 c4
 refine ⟨O, ?_⟩
 obtain ⟨o', s', e, h1, h2, h3⟩ := O
 have e' : realM l g o (relN l o k).sym = ((o' : Int), (s' : Int)) := e
 rw [e'] at h ⊢
 simp only [symAt_nat] at h ⊢
 rcases Own.in12 G h1 h2 h3 with h4 | h4
 ·exact absurd h4 h
 ·exact h4
theorem VOb.ins {o : Ob} (v : VOb o) {w : Nat} (hw : w < o.map.length) (hm : o.map.getD w 0 = 1) : insB o.code o.map w = true ∧ ofOk (o.code.getD w 0) = true ∧ (insI o.code o.map w) = ofF (o.code.getD w 0) (nextW o.code w) ∧ callB o.code o.map w = false ∧
  (isaTwo (o.code.getD w 0 / 16777216) = true → w + 1 < o.code.length ∧ o.map.getD (w + 1) 0 = 0) ∧ (insI o.code o.map w).op = o.code.getD w 0 / 16777216 := by
 have h := v.words w (by have := v.map; omega)
 unfold wordBE at h
 rw [Int.toNat_natCast, if_pos hm] at h
 split at h
 ·cases h
 ·rename_i h1
  have h1 : (!insB o.code o.map w || callB o.code o.map w) = false := by simpa using h1
  rw [Bool.or_eq_false_iff, Bool.not_eq_false'] at h1
  obtain ⟨h1, h1'⟩ := h1
  have hb := h1
  unfold insB at hb
  rw [Bool.and_eq_true, Int.toNat_natCast] at hb
  have e : insI o.code o.map w = ofF (o.code.getD w 0) (nextW o.code w) := by unfold insI; rw [if_pos hb.1, Int.toNat_natCast]
  have e2 : (insI o.code o.map w).op = o.code.getD w 0 / 16777216 := by rw [e]; unfold ofF; rw [if_pos hb.2]
  refine ⟨h1, hb.2, e, h1', fun ht => ?_, e2⟩
  split at h
  ·cases h
  ·rename_i h2
   rw [e2, ht] at h2
   simp only [Bool.true_and, Bool.or_eq_true, decide_eq_true_eq, not_or, Bool.not_eq_true', decide_eq_false_iff_not, Decidable.not_not] at h2
   have e3 : ((w : Int) + 1).toNat = w + 1 := by omega
   rw [e3] at h2
   exact ⟨by omega, h2.2⟩
theorem VOb.first {o : Ob} (v : VOb o) {j : Nat} (hj : j < o.crels.length) {w : Nat} (hw : (o.crels.getD j RT.rel.dflt).at_ = w) (hm : o.map.getD w 0 = 1) : (o.crels.getD j RT.rel.dflt).kind = 2 := by
 obtain ⟨_, _, _, _, c5, _, _, c8, _⟩ := v.crel hj _ rfl
 rcases c5 with h | h
 ·unfold shapeB at c8
  rw [if_neg (by omega)] at c8
  split at c8
  ·cases c8
  ·rw [hw, Int.toNat_natCast, hm] at c8
   rw [if_neg (by decide)] at c8
   simp at c8
 ·exact h
theorem wordW_val {op a b c i : Int} (h : wordOk op a b c i = true) : wordW op a b c i = op * 16777216 + a * 65536 + b * 256 + c ∧ 0 ≤ a ∧ a ≤ 255 ∧ 0 ≤ b ∧ b ≤ 255 ∧ 0 ≤ c ∧ c ≤ 255 := by
 have hw := h
 unfold wordOk at h
 simp only [Bool.and_eq_true] at h
 obtain ⟨⟨⟨⟨_, g2⟩, g3⟩, g4⟩, _⟩ := h
 have := fits_in g2
 have := fits_in g3
 have := fits_in g4
 unfold wordW; rw [if_pos hw]; unfold wordVal
 exact ⟨rfl, by omega, by omega, by omega, by omega, by omega, by omega⟩
theorem word_dec {op a b c : Int} (ha : 0 ≤ a ∧ a ≤ 255) (hb : 0 ≤ b ∧ b ≤ 255) (hc : 0 ≤ c ∧ c ≤ 255) : (op * 16777216 + a * 65536 + b * 256 + c) / 16777216 = op ∧ (op * 16777216 + a * 65536 + b * 256 + c) / 65536 % 256 = a ∧ (op * 16777216 + a * 65536 + b * 256 + c) / 256 % 256 = b ∧ (op * 16777216 + a * 65536 + b * 256 + c) % 256 = c := by omega
theorem long_ok {op a b : Int} (h : shortM op = true) {c i : Int} (hw : wordOk op a b c 0 = true) : wordOk (op - 16 + 19) a b 0 i = true ∧ wordOk (op - 16 + 19) a b 0 0 = true := by
 unfold wordOk at hw ⊢
 simp only [Bool.and_eq_true] at hw
 obtain ⟨⟨⟨⟨_, g2⟩, g3⟩, _⟩, _⟩ := hw
 rcases short_op h with h | h | h <;> subst h
 ·have e1 : kA 16 = kA 19 := rfl
  have e2 : kB 16 = kB 19 := rfl
  rw [e1] at g2; rw [e2] at g3
  simp only [show (16 : Int) - 16 + 19 = 19 from rfl, g2, g3]
  exact ⟨by simp [isaClass, isaTwo, fitsM, kC, most], by simp [isaClass, isaTwo, fitsM, kC, most]⟩
 ·have e1 : kA 17 = kA 20 := rfl
  have e2 : kB 17 = kB 20 := rfl
  rw [e1] at g2; rw [e2] at g3
  simp only [show (17 : Int) - 16 + 19 = 20 from rfl, g2, g3]
  exact ⟨by simp [isaClass, isaTwo, fitsM, kC, most], by simp [isaClass, isaTwo, fitsM, kC, most]⟩
 ·have e1 : kA 18 = kA 21 := rfl
  have e2 : kB 18 = kB 21 := rfl
  rw [e1] at g2; rw [e2] at g3
  simp only [show (18 : Int) - 16 + 19 = 21 from rfl, g2, g3]
  exact ⟨by simp [isaClass, isaTwo, fitsM, kC, most], by simp [isaClass, isaTwo, fitsM, kC, most]⟩
theorem short_ok {op a b : Int} (h : shortM op = true) {c : Int} (hw : wordOk op a b c 0 = true) {z : Int} (hz : 0 ≤ z ∧ z ≤ 255) : wordOk op a b z 0 = true := by
 unfold wordOk at hw ⊢
 simp only [Bool.and_eq_true] at hw ⊢
 obtain ⟨⟨⟨⟨g1, g2⟩, g3⟩, _⟩, g5⟩ := hw
 refine ⟨⟨⟨⟨g1, g2⟩, g3⟩, ?_⟩, g5⟩
 have e : kC op = 2 := by rcases short_op h with h | h | h <;> rw [h] <;> rfl
 rw [e]
 unfold fitsM most
 simp; omega
theorem disp8_in (z : Int) : 0 ≤ disp8 z ∧ disp8 z ≤ 255 := by unfold disp8; rw [IntKind.wrap_u8]; omega
inductive Became (l : List Ob) (g : Glb) (n o w : Nat) : Prop where
 | same : itB (itF l g) n = false → ckC l g n = wdL l g o w (itS (itF l g) n).toNat → wdV l g o w = (obN l o).code.getD w 0 → Became l g n o w
 | long : itB (itF l g) n = true → (loF l g).getD n false = true → shortM (itI l n).op = true → wordOk ((itI l n).op - 16 + 19) (itI l n).a (itI l n).b 0 0 = true →
   ckC l g n = [((itI l n).op - 16 + 19) * 16777216 + (itI l n).a * 65536 + (itI l n).b * 256 + 0, adrL l g (itTo l g n)] → Became l g n o w
 | short : itB (itF l g) n = true → (loF l g).getD n false = false → shortM (itI l n).op = true → wordOk (itI l n).op (itI l n).a (itI l n).b (disp8 (plN l g (itG (itF l g) n).toNat - plN l g n)) 0 = true →
   ckC l g n = [(itI l n).op * 16777216 + (itI l n).a * 65536 + (itI l n).b * 256 + disp8 (plN l g (itG (itF l g) n).toNat - plN l g n)] → Became l g n o w
theorem became {l : List Ob} {g : Glb} (K : LkOk l g) {n o w : Nat} (I : ItAt l n o w) (hm : (obN l o).map.getD w 0 = 1) : Became l g n o w := by
 have V := K.nm.val o I.ho
 obtain ⟨i1, i2, i3, i4, i5, i6⟩ := V.ins I.hw hm
 have eI : itI l n = insI (obN l o).code (obN l o).map w := by unfold itI; rw [I.own]; simp only [Int.toNat_natCast]
 by_cases hb : itB (itF l g) n = false
 ·refine .same hb (by unfold ckC; rw [if_pos hb, I.own]) ?_
  have hR : wdR l o w = false := by
   cases h : wdR l o w with
   | false => rfl
   | true =>
    unfold wdR at h
    rw [Bool.and_eq_true] at h
    obtain ⟨k, k1, k2, k3⟩ := rH_is I.ho h.1
    have h2 := of_decide_eq_true h.2
    rw [k3] at h2
    have := V.first k1 k2 hm
    have : (relN l o k).kind = 2 := this
    omega
  unfold wdV
  rw [if_neg (by rw [hR]; simp)]
  simp only [Int.toNat_natCast]
 ·have hb : itB (itF l g) n = true := by simpa using hb
  obtain ⟨k, k1, k2, k3, k4, k5, k6, k7, k8⟩ := I.br K.nm hb
  rw [← eI] at k8
  have hw : wordOk (itI l n).op (itI l n).a (itI l n).b (itI l n).c 0 = true := by
   rw [eI, i3]; unfold ofF; rw [if_pos i2]; exact i2
  have himm : (itI l n).imm = 0 := by
   have : isaTwo ((obN l o).code.getD w 0 / 16777216) = false := by rw [← i6, ← eI]; exact short_two k8
   rw [eI, i3]; unfold ofF ofImm; rw [if_pos i2, this]; rfl
  cases hlo : (loF l g).getD n false with
  | true =>
   refine .long hb hlo k8 (long_ok (i := 0) k8 hw).2 ?_
   unfold ckC
   rw [if_neg (by rw [hb]; simp), if_pos hlo, (wordW_val (long_ok k8 hw).1).1]
  | false =>
   have hok := short_ok k8 hw (disp8_in (plN l g (itG (itF l g) n).toNat - plN l g n))
   refine .short hb hlo k8 hok ?_
   unfold ckC
   rw [if_neg (by rw [hb]; simp), if_neg (by rw [hlo]; simp), himm, (wordW_val hok).1]
end Go.Proofs.YtacmmedhjebfjaaDoor
set_option linter.unusedVariables false
set_option linter.unusedSimpArgs false
set_option linter.unusedSectionVars false
namespace Go.Proofs.YtacmmedhjebfjaaDoor
open Go.RowKit Go.Sy Go.Fac
section
variable {ea : Ear} {has : Int → Prop} {rest : List (Nat × SVal)} [ht : Nonempty (EType ea)]
def kObjectR : List SVal → Nat → Acc ORes := fun a n => match a with | [.ro .u32 dd, .ro .line ls] => .ret ({ v := obV dd (oAll ls).code (oAll ls).map (nilR .rel) (oAll ls).cr (oAll ls).sy, vc := some (ls.length ≤ 100000 ∧ shortN dd) }) | _ => .fail "ObjectR"
theorem argObjectR (dd : List Int) (ls : List Ln) : (all (subL tAtN none' [] deep [.ro .u32 dd, .ro .line ls] [.ro .u32 dd, .ro .line ls])) = (
 dd = dd ∧ ls = ls) := by kernel_rfl
theorem runObjectR (rest : List (Nat × SVal)) (dd : List Int) (ls : List Ln) : (Tr.sat (plainQ (obV dd (oAll ls).code (oAll ls).map (nilR .rel) (oAll ls).cr (oAll ls).sy)) (run (env (G7 ++ rest) [(33, kWords), (34, kSym), (32, krWord), (31, krTwo)]) [(3, LObj dd ls)] (bodyOf Tryd.f18) (start [.ro .u32 dd, .ro .line ls] 132) (ends (env (G7 ++ rest) [(33, kWords), (34, kSym), (32, krWord), (31, krTwo)]) Tryd.f18.results.toList))) = (
 RQ (List.length dd ≤ 1000000) (RQ (List.length ls ≤ 100000 ∧ ls = ls ∧ (0 : Int) = (↑(0 : Nat) : Int) ∧ dd = dd ∧ (oSt ls (0 : Nat)).code = @List.nil (RT.ty RT.u32) ∧ (oSt ls (0 : Nat)).map = @List.nil (RT.ty RT.u8) ∧ (oSt ls (0 : Nat)).cr = @List.nil (RT.ty RT.rel) ∧ (oSt ls (0 : Nat)).sy = @List.nil (RT.ty RT.sym)) (dd = dd ∧ (oAll ls).code = (oAll ls).code ∧ (oAll ls).map = (oAll ls).map ∧ nilR RT.rel = @List.nil (RT.ty RT.rel) ∧ (oAll ls).cr = (oAll ls).cr ∧ (oAll ls).sy = (oAll ls).sy))) := by kernel_rfl
set_option maxHeartbeats 4000000 in
theorem cObjectR : Con ea has (G7 ++ rest) 18 kObjectR := by
 refine plain_mkB Tryd.func18 132 (con := [(33, kWords), (34, kSym), (32, krWord), (31, krTwo)]) ⟨cWords, cSym, crWord, crTwo, trivial⟩ (fun hA hr hv => ?_) (by kernel_rfl) (by kernel_rfl) Tryd.ntmps18
 unfold kObjectR at hr; split at hr
 ·rename_i dd ls
  have := ret_ok hr; subst this
  replace hv := hv _ rfl
  refine ⟨_, [(3, LObj dd ls)], rfl, rfl, .of (argObjectR dd ls) (by simp), rfl, (fun W R ρ0 own0 hown => hl1 (by kernel_rfl) (by kernel_rfl) (lObj dd ls hown)), .of (runObjectR rest dd ls) ?_⟩
  delta RQ
  clear hr
  exact ⟨hv.2, fun _ => ⟨⟨hv.1, rfl, rfl, rfl, rfl, rfl, rfl, rfl⟩, fun _ => ⟨rfl, rfl, rfl, rfl, rfl, rfl⟩⟩⟩
 ·cases hr
abbrev kObjectRF := frz shObj kObjectR
theorem cObjectRF : Con ea has (G7 ++ rest) 18 kObjectRF := frz_ok cObjectR shObj
def heavy (l : List Ob) (w : Int) (i : Nat) : Bool := !(!lightB (obN l i).data (obN l i).code (obN l i).map (obN l i).drels (obN l i).crels (obN l i).syms w && noneP (longP (obN l i).syms) (obN l i).syms.length)
def objsB (l : List Ob) (many w : Int) : Bool := !decide (many < (l.length : Int)) && noneP (heavy l w) l.length
def HObjs (l : List Ob) (w : Int) (i : Nat) : SState := { fr := [(0, .ro .obj l), (2, .int .i64 (.full w)), (7, .int .i64 (.sym i 0 1000000))], hp := [], next := 0, sz := 25 }
def XObjs (l : List Ob) (w : Int) : SState := { fr := [], hp := [], next := 0, sz := 25 }
def YObjs (l : List Ob) (w : Int) : SState := { fr := [(6, .bool (.lit false))], hp := [], next := 0, sz := 25 }
def LObjs (l : List Ob) (w : Int) : LSum := ⟨HObjs l w 0, fun k => .ite (noneP (heavy l w) l.length) (k (.exit 0) (XObjs l w)) (k .ret (YObjs l w)), l.length ≤ 1000000 ∧ 0 ≤ w ∧ w ≤ 1000000⟩
theorem bObjs (rest : List (Nat × SVal)) (l : List Ob) (w : Int) (i : Nat) : (Tr.sat (rnd2 (env (G7 ++ rest) [(28, kLight)]) (fun i => noneP (heavy l w) i = true) (l.length) (HObjs l w) 0 (noneP (heavy l w) l.length) (XObjs l w) (YObjs l w) i) (run (env (G7 ++ rest) [(28, kLight)]) [] (loopN (bodyOf Tryd.f9) 0) (HObjs l w i) .leaf)) = (
 IT (decide ((↑i : Int) < (↑(List.length l) : Int))) (RQ (0 ≤ (↑i : Int) ∧ (↑i : Int) < (↑(List.length l) : Int)) (RQ (0 ≤ w ∧ w ≤ 1000000) (IT (!(!lightB (List.getD l (Int.toNat (↑i : Int)) (RT.dflt RT.obj)).data (List.getD l (Int.toNat (↑i : Int)) (RT.dflt RT.obj)).code (List.getD l (Int.toNat (↑i : Int)) (RT.dflt RT.obj)).map (List.getD l (Int.toNat (↑i : Int)) (RT.dflt RT.obj)).drels (List.getD l (Int.toNat (↑i : Int)) (RT.dflt RT.obj)).crels (List.getD l (Int.toNat (↑i : Int)) (RT.dflt RT.obj)).syms w && noneP (longP (List.getD l (Int.toNat (↑i : Int)) (RT.dflt RT.obj)).syms) (List.length (List.getD l (Int.toNat (↑i : Int)) (RT.dflt RT.obj)).syms))) (noneP (heavy l w) (List.length l) = false ∧ false = false) (i < List.length l ∧ noneP (heavy l w) (i + 1) = true ∧ l = l ∧ w = w ∧ (↑i : Int) + 1 = (↑(i + 1) : Int) ∧ 0 ≤ (↑(i + 1) : Int) ∧ (↑(i + 1) : Int) ≤ 1000000)))) (Nat.beq (0 : Nat) (0 : Nat) = true ∧ noneP (heavy l w) (List.length l) = true ∧ True)) := by kernel_rfl
set_option maxHeartbeats 4000000 in
theorem lObjs (l : List Ob) (w : Int) {W : World} {R own0 : Nat → Prop} {ρ0 : Nat → Option Value} (hown : HownOk (env (G7 ++ rest) [(28, kLight)]) own0 ρ0) : LOk Tryd.prog (env (G7 ++ rest) [(28, kLight)]) (ctx ea has) (G7 ++ rest) W R own0 ρ0 (loopN (bodyOf Tryd.f9) 0) (LObjs l w) := by
 refine loop2_ok (J := fun i => noneP (heavy l w) i = true) (N := l.length) (H := HObjs l w) (X := XObjs l w) (Y := YObjs l w) (env_ok (con := [(28, kLight)]) ⟨cLight, trivial⟩) hown (ls := fun i => []) (fun i => noSums (by kernel_rfl)) (fun hm i hi hj => ?_) 0 (fun hm => by first | exact Nat.zero_le _ | omega) (fun hm => rfl)
 rw [bObjs rest l w i]
 delta RQ IT
 simp only [Int.toNat_natCast, eq_self, true_and, and_true]
 obtain ⟨h1, h2, h3⟩ := hm
 refine ⟨fun h => ?_, fun h => ?_⟩
 ·have h := of_decide_eq_true h
  have hlt : i < l.length := by omega
  refine ⟨by omega, fun _ => ⟨⟨h2, h3⟩, fun _ => ⟨fun g1 => ?_, fun g1 => ?_⟩⟩⟩
  ·exact noneP_at (p := heavy l w) g1 hlt
  ·have g1 : heavy l w i = false := g1
   refine ⟨hlt, by rw [noneP, hj, g1]; rfl, ?_⟩
   first | exact ⟨by omega, by omega, by omega⟩ | exact ⟨by omega, by omega⟩
 ·have h := of_decide_eq_false h
  have : i = l.length := by omega
  subst this
  exact ⟨rfl, hj⟩
def kObjects : List SVal → Nat → Acc ORes := fun a n => match a with | [.ro .obj l, .int .i64 many, .int .i64 w] => .ret ({ v := .bool (.sym (objsB l many.val w.val)), vc := some (many.val ≤ 1000000 ∧ 0 ≤ w.val ∧ w.val ≤ 1000000) }) | _ => .fail "Objects"
theorem argObjects (l : List Ob) (many w : SI) : (all (subL tAtN none' [] deep [.ro .obj l, .int .i64 many, .int .i64 w] [.ro .obj l, .int .i64 (.full many.val), .int .i64 (.full w.val)])) = (
 l = l ∧ SI.val many = SI.val many ∧ SI.val w = SI.val w) := by kernel_rfl
theorem runObjects (rest : List (Nat × SVal)) (l : List Ob) (many : Int) (w : Int) : (Tr.sat (plainQ (.bool (.sym (objsB l many w)))) (run (env (G7 ++ rest) [(28, kLight)]) [(4, LObjs l w)] (bodyOf Tryd.f9) (start [.ro .obj l, .int .i64 (.full many), .int .i64 (.full w)] 25) (ends (env (G7 ++ rest) [(28, kLight)]) Tryd.f9.results.toList))) = (
 IT (decide (many < (↑(List.length l) : Int))) (false = objsB l many w) (RQ ((List.length l ≤ 1000000 ∧ 0 ≤ w ∧ w ≤ 1000000) ∧ l = l ∧ w = w ∧ (0 : Int) = (↑(0 : Nat) : Int)) (IT (noneP (heavy l w) (List.length l)) (true = objsB l many w) (false = objsB l many w)))) := by kernel_rfl
set_option maxHeartbeats 4000000 in
theorem cObjects : Con ea has (G7 ++ rest) 9 kObjects := by
 refine plain_mkB Tryd.func9 25 (con := [(28, kLight)]) ⟨cLight, trivial⟩ (fun hA hr hv => ?_) (by kernel_rfl) (by kernel_rfl) Tryd.ntmps9
 unfold kObjects at hr; split at hr
 ·rename_i l many w
  have := ret_ok hr; subst this
  replace hv := hv _ rfl
  refine ⟨_, [(4, LObjs l w.val)], rfl, rfl, .of (argObjects l many w) (by simp), rfl, (fun W R ρ0 own0 hown => hl1 (by kernel_rfl) (by kernel_rfl) (lObjs l w.val hown)), .of (runObjects rest l many.val w.val) ?_⟩
  delta RQ IT
  clear hr
  clear hA
  generalize many.val = m at *
  generalize w.val = w at *
  obtain ⟨h1, h2, h3⟩ := hv
  unfold objsB
  refine ⟨fun h => ?_, fun h => ?_⟩
  ·rw [h]; rfl
  ·have h' := of_decide_eq_false h
   rw [h]
   refine ⟨⟨⟨by omega, h2, h3⟩, rfl, rfl, rfl⟩, fun _ => ⟨fun g => ?_, fun g => ?_⟩⟩
   ·rw [g]; rfl
   ·rw [g]; rfl
 ·cases hr
abbrev kLinkF := frz [.ro .obj] kLinkC
theorem cLinkF : Con ea has (G7 ++ rest) 10 kLinkF := frz_ok cLinkC _
def kfirst13 : List SVal → Nat → Acc ORes := fun a n => match a with | [] => .ret ({ v := .bool (.lit true) }) | _ => .fail "first13"
theorem argfirst13  : (all (subL tAtN none' [] deep [] [])) = (
 True) := by kernel_rfl
theorem runfirst13 (rest : List (Nat × SVal)) : (Tr.sat (plainQ (.bool (.lit true))) (run (env (G7 ++ rest) [(15, kAt), (17, kOp), (18, kObjectRF), (10, kLinkF)]) [] (bodyOf Tryd.f8) (start [] 25) (ends (env (G7 ++ rest) [(15, kAt), (17, kOp), (18, kObjectRF), (10, kLinkF)]) Tryd.f8.results.toList))) = (
 RQ (List.length [Ln.mk (In5.mk (0 : Int) (0 : Int) (0 : Int) (0 : Int) (0 : Int)) (ByteArray.mk #[(109 : UInt8), (97 : UInt8), (105 : UInt8), (110 : UInt8)]) ByteArray.empty false, opL (1 : Int) (nilR RT.i64)] ≤ 100000 ∧ shortN (@List.nil (RT.ty RT.u32))) (true = true)) := by kernel_rfl
set_option maxHeartbeats 4000000 in
theorem cfirst13 : Con ea has (G7 ++ rest) 8 kfirst13 := by
 refine plain_mkB Tryd.func8 25 (con := [(15, kAt), (17, kOp), (18, kObjectRF), (10, kLinkF)]) ⟨cAt, cOp, cObjectRF, cLinkF, trivial⟩ (fun hA hr hv => ?_) (by kernel_rfl) (by kernel_rfl) Tryd.ntmps8
 unfold kfirst13 at hr; split at hr
 ·skip
  have := ret_ok hr; subst this
  refine ⟨_, [], rfl, rfl, .of (argfirst13 ) (by simp), rfl, (fun W R ρ0 own0 hown => noSums (by kernel_rfl)), .of (runfirst13 rest ) ?_⟩
  delta RQ
  clear hr
  exact ⟨⟨by simp, Nat.zero_le _⟩, fun _ => rfl⟩
 ·cases hr
end
end Go.Proofs.YtacmmedhjebfjaaDoor
set_option linter.unusedVariables false
set_option linter.unusedSimpArgs false
set_option linter.unusedSectionVars false
namespace Go.Proofs.YtacmmedhjebfjaaDoor
open Go.RowKit Go.Sy Go.Fac
section
variable {ea : Ear} {has : Int → Prop} {rest : List (Nat × SVal)} [ht : Nonempty (EType ea)]
theorem img_few {l : List Ob} {g : Glb} (K : LkOk l g) : (imgM l g).code.length ≤ 2048 ∧ (imgM l g).places.length ≤ 4096 ∧ (imgM l g).starts.length ≤ 2048 ∧ (imgM l g).drefs.length ≤ 16384 ∧ (imgM l g).data.length ≤ 2048 := by
 have h := ptN_len l g (itF l g).length
 have hb := K.bs
 obtain ⟨_, e2, e3⟩ := ptN_entry l g (itF l g).length
 have e2 : (imgM l g).data = (dtO l g l.length).1 := e2
 have e3 : (imgM l g).drefs = (dtO l g l.length).2 := e3
 have h2 := dtO_len l g l.length
 have h3 := dtO_ref K.nm l.length (Nat.le_refl _)
 have h4 := K.nm.few
 have h5 := code_len K
 have h6 := K.plN (n := oBs l l.length) (by omega)
 have h7 : (imgM l g).places.length ≤ 2 * (itF l g).length := h.2.1
 have h8 : (imgM l g).starts.length ≤ (itF l g).length := h.2.2
 rw [e2, e3]
 omega
end
end Go.Proofs.YtacmmedhjebfjaaDoor
set_option linter.unusedVariables false
set_option linter.unusedSimpArgs false
namespace Go.Proofs.YtacmmedhjebfjaaDoor
open Go.RowKit Go.Sy Go.Fac
theorem mpJ_all (f : Int → Int) (st x : List Int) : ∀ j, j ≤ st.length → mpJ f st x j = x ++ (st.take j).map f
  | 0, _ => by simp [mpJ]
  | j + 1, h => by
    rw [mpJ, mpJ_all f st x j (by omega), List.append_assoc]
    congr 1
    rw [take_get1 st 0 (show j < st.length by omega), List.map_append]; rfl
theorem mpO_succ (f : Nat → Int → Int) (l : List Ob) (i : Nat) : mpO f l (i + 1) = mpO f l i ++ (stO (obN l i)).map (f i) := by
  rw [mpO, mpJ_all _ _ _ _ (Nat.le_refl _), List.take_length]
def sV (l : List Ob) (g : Glb) (i : Nat) (w : Int) : Int := plN l g (pix l i w.toNat)
theorem starts_in {l : List Ob} {g : Glb} (G : NmG l g) {i : Nat} (hi : i < l.length) : ∀ w, w ≤ (obN l i).map.length → (ptN l g (oBs l i + rk (obN l i).map w)).starts = (ptN l g (oBs l i)).starts ++ (startsF (obN l i).code (obN l i).map w).map (sV l g i)
  | 0, _ => by simp [rk, startsF]
  | w + 1, h => by
    have ih := starts_in G hi w (by omega)
    have hmc := (G.val i hi).map
    by_cases hm : (obN l i).map.getD w 0 = 0
    · have e1 : rk (obN l i).map (w + 1) = rk (obN l i).map w := by rw [rk, if_pos hm]; omega
      have e2 : startsF (obN l i).code (obN l i).map (w + 1) = startsF (obN l i).code (obN l i).map w := by rw [startsF, if_neg (by omega)]
      rw [e1, e2]; exact ih
    · have e1 : oBs l i + rk (obN l i).map (w + 1) = oBs l i + rk (obN l i).map w + 1 := by rw [rk, if_neg hm]; omega
      have I := itAt_of hi (show w < (obN l i).map.length by omega) hm
      have hn : oBs l i + rk (obN l i).map w = pix l i w := rfl
      have hlt := pix_lt (l := l) hi (show w < (obN l i).map.length by omega) hm
      have hp := ptN_pos G (pix l i w) (by omega)
      rw [e1, ptN, ptM_eq]
      show (ptN l g (oBs l i + rk (obN l i).map w)).starts ++ ckS l (oBs l i + rk (obN l i).map w) (ptN l g (oBs l i + rk (obN l i).map w)).code.length = _
      rw [ih, hn, hp, List.append_assoc]
      congr 1
      unfold ckS
      rw [I.own]
      simp only [Int.toNat_natCast]
      by_cases h1 : (obN l i).map.getD w 0 = 1
      · rw [if_pos h1, startsF, if_pos ⟨h1, by omega⟩, List.map_append]
        congr 1
      · rw [if_neg h1, startsF, if_neg (fun h => h1 h.1), List.append_nil]
theorem starts_all {l : List Ob} {g : Glb} (G : NmG l g) : ∀ i, i ≤ l.length → (ptN l g (oBs l i)).starts = mpO (sV l g) l i
  | 0, _ => rfl
  | i + 1, h => by
    rw [oBs, starts_in G (show i < l.length by omega) _ (Nat.le_refl _), starts_all G i (by omega), mpO_succ]
theorem starts_eq {l : List Ob} {g : Glb} (K : LkOk l g) : (imgM l g).starts = mpO (sV l g) l l.length := by
  unfold imgM; rw [K.bs.2.1]; exact starts_all K.nm _ (Nat.le_refl _)
theorem mpO_map (f f' : Nat → Int → Int) (l : List Ob) (h : ∀ i w, f i w = 2048 + f' i w) : ∀ i, mpO f l i = (mpO f' l i).map (2048 + ·)
  | 0 => rfl
  | i + 1 => by rw [mpO_succ, mpO_succ, mpO_map f f' l h i, List.map_append, List.map_map]; congr 1; exact List.map_congr_left fun w _ => h i w
theorem starts_rw (c m : List Int) (hcm : m.length = c.length) : ∀ k, k ≤ c.length → startsF (rwC c m c.length) (rwM c m c.length) (rwC c m k).length = (startsF c m k).map fun w => ((rwC c m w.toNat).length : Int)
  | 0, _ => rfl
  | k + 1, h => by
    have ih := starts_rw c m hcm k (by omega)
    obtain ⟨r1, r2, r3⟩ := rw_at c m c.length k (by omega)
    have hlt := rwC_mono c m c.length (show k < c.length by omega)
    by_cases hf : isF c m k = true
    · have hm : m.getD k 0 = 1 := by unfold isF at hf; rw [Bool.and_eq_true, decide_eq_true_eq] at hf; exact hf.1
      have e : (rwC c m (k + 1)).length = (rwC c m k).length + 1 + 1 := by rw [rwC, if_pos hf, List.length_append]; rfl
      rw [if_pos hf] at r1
      rw [e, startsF, if_neg (fun h => by rw [(r3 hf).1] at h; exact absurd h.1 (by decide)), startsF, if_pos ⟨r1, hlt⟩, ih, startsF, if_pos ⟨hm, by omega⟩, List.map_append]
      rfl
    · have e : (rwC c m (k + 1)).length = (rwC c m k).length + 1 := by rw [rwC, if_neg hf, List.length_append]; rfl
      rw [if_neg hf] at r1
      rw [e, startsF, r1, startsF]
      by_cases hm : m.getD k 0 = 1
      · rw [if_pos ⟨hm, hlt⟩, if_pos ⟨hm, by omega⟩, ih, List.map_append]; rfl
      · rw [if_neg (fun h => hm h.1), if_neg (fun h => hm h.1)]; exact ih
theorem rwTL_get {o : Ob} (h : (rwE o).isErr = false) {w : Nat} (hw : w < o.code.length) : (rwTL o).getD w 0 = ((rwC o.code o.map w).length : Int) := by
  have eT : rwTL o = rwTo o.code o.map ++ [((rwC o.code o.map o.code.length).length : Int)] := by unfold rwTL doT ifOk; rw [h]; rfl
  rw [eT, getD_app_l _ _ _ (by rw [rwTo_len]; exact hw)]
  exact rwT_get _ _ _ _ _ hw
theorem stO_rw {o : Ob} (h : (rwE o).isErr = false) (hcm : o.map.length = o.code.length) : stO (rwOb o) = (stO o).map fun w => (rwTL o).getD w.toNat 0 := by
  have eM : (rwOb o).map = rwM o.code o.map o.code.length := by unfold rwOb doM ifOk; rw [h]; rfl
  have eC : (rwOb o).code = rwC o.code o.map o.code.length := by unfold rwOb doC ifOk; rw [h]; rfl
  show startsF (rwOb o).code (rwOb o).map (rwOb o).map.length = (startsF o.code o.map o.map.length).map _
  rw [eM, eC, (rwC_len _ _ _).2, starts_rw _ _ hcm _ (Nat.le_refl _), hcm]
  refine List.map_congr_left fun w hw => ?_
  obtain ⟨j, hj, e⟩ := List.getElem_of_mem hw
  obtain ⟨v, h1, _, h3, _⟩ := startsF_in o.code o.map o.code.length j hj
  have : w = (v : Int) := by rw [← h1, List.getD_eq_getElem?_getD, List.getElem?_eq_getElem hj, ← e]; rfl
  subst this
  rw [Int.toNat_natCast, rwTL_get h h3]
theorem mpO_rw {l : List Ob} {g : Glb} (G : NmG l g) (h : (rwErr l).isErr = false) (F : Nat → Int → Int) : ∀ i, i ≤ l.length → mpO (fun i w => F i ((rwTL (obN l i)).getD w.toNat 0)) l i = mpO F (rwObs l) i
  | 0, _ => rfl
  | i + 1, hi => by
    obtain ⟨h1, _, _, _, h5⟩ := rw_ok h
    rw [mpO_succ, mpO_succ, mpO_rw G h F i (by omega), h5 i (by omega), stO_rw (h1 i (by omega)) (G.val i (by omega)).map, List.map_map]
    rfl
theorem map_a {l : List Ob} (K : LkOk l (nmG l)) : mpO (aV l) l l.length = (imgM l (nmG l)).starts.map (2048 + ·) := by
  rw [starts_eq K]; exact mpO_map _ _ _ (fun i w => rfl) _
theorem map_b {l : List Ob} (K : LkOk l (nmG l)) (K' : LkOk (rwObs l) (nmG (rwObs l))) (h : (rwErr l).isErr = false) : mpO (bV l) l l.length = (imgM (rwObs l) (nmG (rwObs l))).starts.map (2048 + ·) := by
  have hl := (rw_ok h).2.2.2.1
  rw [starts_eq K', hl]
  have e : mpO (bV l) l l.length = mpO (aV (rwObs l)) (rwObs l) l.length := mpO_rw K.nm h (aV (rwObs l)) _ (Nat.le_refl _)
  rw [e]; exact mpO_map _ _ _ (fun i w => rfl) _
theorem mpO_at (f f' : Nat → Int → Int) (l : List Ob) : ∀ i j, j < (mpO f l i).length → (mpO f' l i).length = (mpO f l i).length ∧ ∃ o k, o < i ∧ k < (stO (obN l o)).length ∧ (mpO f l i).getD j 0 = f o ((stO (obN l o)).getD k 0) ∧ (mpO f' l i).getD j 0 = f' o ((stO (obN l o)).getD k 0)
  | 0, j, h => by cases h
  | i + 1, j, h => by
    have hl : ∀ n, (mpO f' l n).length = (mpO f l n).length := fun n => by
      induction n with
      | zero => rfl
      | succ n ih => rw [mpO_succ, mpO_succ, List.length_append, List.length_append, ih, List.length_map, List.length_map]
    refine ⟨hl _, ?_⟩
    rw [mpO_succ] at h
    rw [mpO_succ, mpO_succ]
    by_cases hj : j < (mpO f l i).length
    · obtain ⟨_, o, k, h1, h2, h3, h4⟩ := mpO_at f f' l i j hj
      exact ⟨o, k, by omega, h2, by rw [getD_app_l _ _ _ hj]; exact h3, by rw [getD_app_l _ _ _ (by rw [hl]; exact hj)]; exact h4⟩
    · rw [List.length_append, List.length_map] at h
      have hk : j - (mpO f l i).length < (stO (obN l i)).length := by omega
      refine ⟨i, j - (mpO f l i).length, by omega, hk, ?_, ?_⟩
      · rw [getD_app_r _ _ _ (by omega), List.getD_eq_getElem?_getD, List.getElem?_map, List.getElem?_eq_getElem hk, List.getD_eq_getElem?_getD, List.getElem?_eq_getElem hk]; rfl
      · rw [getD_app_r _ _ _ (by rw [hl]; omega), hl, List.getD_eq_getElem?_getD, List.getElem?_map, List.getElem?_eq_getElem hk, List.getD_eq_getElem?_getD, List.getElem?_eq_getElem hk]; rfl
theorem mark_back13 {w : Int} (h1 : ofOk w = true) (h2 : isaClass (w / 16777216) = 2 ∨ isaClass (w / 16777216) = 3) : backB (markW w) = true ∧ (backI (markW w)).op = w / 16777216 := by
  have hr : 32 ≤ w / 16777216 ∧ w / 16777216 < 128 := by
    unfold isaClass at h2
    by_cases a1 : 1 ≤ w / 16777216 ∧ w / 16777216 ≤ 24
    · rw [if_pos a1] at h2; omega
    · rw [if_neg a1] at h2
      by_cases a2 : 32 ≤ w / 16777216 ∧ w / 16777216 ≤ 44
      · omega
      · rw [if_neg a2] at h2
        by_cases a3 : 64 ≤ w / 16777216 ∧ w / 16777216 ≤ 67
        · omega
        · rw [if_neg a3] at h2
          split at h2 <;> omega
  have e1 : markW w = 2147483648 + w := mark_or ⟨by omega, by omega⟩
  have e2 : unmark (markW w) = w := by
    have : unmark (markW w) = markW w % 2147483648 := mark_andNot
    rw [this, e1]; omega
  have e3 : (ofF w 0).op = w / 16777216 := by unfold ofF; rw [if_pos h1]
  have e4 : (markW w) % 2147483648 = w := by rw [e1]; omega
  have hb : backB (markW w) = true := by
    rw [backB_eq ⟨by omega, by omega⟩, e4, e3, h1, decide_eq_false (by omega : ¬ markW w < 2147483648)]
    rcases h2 with h | h <;> rw [h] <;> rfl
  exact ⟨hb, by unfold backI; rw [if_pos hb, e2, e3]⟩
theorem class_short {op : Int} (h : shortM op = true) : isaClass op = 1 ∧ isaClass (op - 16 + 19) = 1 := by rcases short_op h with h | h | h <;> rw [h] <;> exact ⟨rfl, rfl⟩
theorem first_of {l : List Ob} {g : Glb} (K : LkOk l g) {o w : Nat} (ho : o < l.length) (hw : w < (obN l o).map.length) (hm : (obN l o).map.getD w 0 = 1) :
    let c := (imgM l g).code.getD (plN l g (pix l o w)).toNat 0
    0 ≤ plN l g (pix l o w) ∧ plN l g (pix l o w) < (imgM l g).code.length ∧
    ((shortM ((obN l o).code.getD w 0 / 16777216) = false ∧ c = (obN l o).code.getD w 0) ∨
     (shortM ((obN l o).code.getD w 0 / 16777216) = true ∧ (c / 16777216 = (obN l o).code.getD w 0 / 16777216 ∨ c / 16777216 = (obN l o).code.getD w 0 / 16777216 - 16 + 19))) := by
  intro c
  have hm' : (obN l o).map.getD w 0 ≠ 0 := by rw [hm]; decide
  have hn := pix_lt (l := l) ho hw hm'
  have I := itAt_of ho hw hm'
  have V := K.nm.val o ho
  have hpl := K.plN (n := pix l o w) (by rw [K.bs.2.1]; omega)
  obtain ⟨i1, i2, i3, i4, i5, i6⟩ := V.ins hw hm
  have eI : itI l (pix l o w) = insI (obN l o).code (obN l o).map w := by unfold itI; rw [I.own]; simp only [Int.toNat_natCast]
  have first : ∀ x, (ckC l g (pix l o w)).getD 0 0 = x → 0 < (ckC l g (pix l o w)).length → c = x ∧ plN l g (pix l o w) < (imgM l g).code.length := fun x h h' => by
    obtain ⟨c1, c2⟩ := code_at K hn h'
    rw [Nat.add_zero] at c1 c2
    exact ⟨by show (imgM l g).code.getD _ 0 = x; rw [c1, h], by omega⟩
  rcases became K I hm with ⟨hb, hC, hV⟩ | ⟨hb, hlo, hsh, hok, hC⟩ | ⟨hb, hlo, hsh, hok, hC⟩
  · have hsz := itF_size l g hn
    obtain ⟨c1, c2⟩ := first ((obN l o).code.getD w 0) (by rw [hC, wdL_get _ _ _ _ _ _ 0 (by omega)]; show wdV l g o ((w : Int) + 0) = _; rw [Int.add_zero]; exact hV) (by rw [hC, wdL_len]; omega)
    refine ⟨hpl.1, c2, ?_⟩
    cases hs : shortM ((obN l o).code.getD w 0 / 16777216) with
    | false => exact .inl ⟨rfl, c1⟩
    | true => exact .inr ⟨rfl, .inl (by rw [c1])⟩
  · rw [eI, i6] at hsh
    obtain ⟨e0, a1, a2, b1, b2, _⟩ := wordW_val hok
    obtain ⟨d1, _⟩ := word_dec (op := (itI l (pix l o w)).op - 16 + 19) ⟨a1, a2⟩ ⟨b1, b2⟩ (c := 0) ⟨by omega, by omega⟩
    obtain ⟨c1, c2⟩ := first (((itI l (pix l o w)).op - 16 + 19) * 16777216 + (itI l (pix l o w)).a * 65536 + (itI l (pix l o w)).b * 256 + 0) (by rw [hC]; rfl) (by rw [hC]; exact Nat.succ_pos 1)
    exact ⟨hpl.1, c2, .inr ⟨hsh, .inr (by rw [c1, d1, eI, i6])⟩⟩
  · rw [eI, i6] at hsh
    obtain ⟨e0, a1, a2, b1, b2, _⟩ := wordW_val hok
    have hd := disp8_in (plN l g (itG (itF l g) (pix l o w)).toNat - plN l g (pix l o w))
    obtain ⟨d1, _⟩ := word_dec (op := (itI l (pix l o w)).op) ⟨a1, a2⟩ ⟨b1, b2⟩ hd
    obtain ⟨c1, c2⟩ := first ((itI l (pix l o w)).op * 16777216 + (itI l (pix l o w)).a * 65536 + (itI l (pix l o w)).b * 256 + disp8 (plN l g (itG (itF l g) (pix l o w)).toNat - plN l g (pix l o w))) (by rw [hC]; rfl) (by rw [hC]; exact Nat.succ_pos 0)
    exact ⟨hpl.1, c2, .inr ⟨hsh, .inl (by rw [c1, d1, eI, i6])⟩⟩
theorem doE_valid {o : Ob} (h : (rwE o).isErr = false) : (validE o.data o.code o.map o.drels o.crels o.syms).isErr = false := by
  unfold rwE doE at h
  by_cases h1 : (validE o.data o.code o.map o.drels o.crels o.syms).isErr = true
  · rw [if_pos h1, h1] at h; cases h
  · simpa using h1
theorem class_123 {o : Ob} (h : (rwE o).isErr = false) {w : Nat} (hw : w < o.code.length) (hm : o.map.getD w 0 = 1) : (isaClass (o.code.getD w 0 / 16777216) = 1 ∨ isaClass (o.code.getD w 0 / 16777216) = 2 ∨ isaClass (o.code.getD w 0 / 16777216) = 3) ∧ ofOk (o.code.getD w 0) = true := by
  obtain ⟨_, _, _, _, _, _, v7, _⟩ := valid_size (doE_valid h)
  have := firstE_all (fun i => wordE_np o.code o.map i) v7 w hw
  have this : (wordE o.code o.map w).isErr = false := this
  unfold wordE at this
  rw [Int.toNat_natCast, if_pos hm] at this
  split at this
  · cases this
  · rename_i h1
    have h1 : (!insB o.code o.map w || decide (isaClass (insI o.code o.map w).op = 4)) = false := by simpa using h1
    rw [Bool.or_eq_false_iff, Bool.not_eq_false', decide_eq_false_iff_not] at h1
    obtain ⟨h1, h2⟩ := h1
    unfold insB at h1
    rw [Bool.and_eq_true, Int.toNat_natCast] at h1
    have e : (insI o.code o.map w).op = o.code.getD w 0 / 16777216 := by unfold insI; rw [if_pos h1.1, Int.toNat_natCast]; unfold ofF; rw [if_pos h1.2]
    rw [e] at h2
    refine ⟨?_, h1.2⟩
    have hk := h1.2
    unfold ofOk wordOk at hk
    simp only [Bool.and_eq_true, Bool.not_eq_true'] at hk
    have h0 : isaClass (o.code.getD w 0 / 16777216) ≠ 0 := by have := hk.1.1.1.1; simpa using this
    unfold isaClass at h0 h2 ⊢
    by_cases a1 : 1 ≤ o.code.getD w 0 / 16777216 ∧ o.code.getD w 0 / 16777216 ≤ 24
    · rw [if_pos a1]; exact .inl rfl
    · rw [if_neg a1] at h0 h2 ⊢
      by_cases a2 : 32 ≤ o.code.getD w 0 / 16777216 ∧ o.code.getD w 0 / 16777216 ≤ 44
      · rw [if_pos a2]; exact .inr (.inl rfl)
      · rw [if_neg a2] at h0 h2 ⊢
        by_cases a3 : 64 ≤ o.code.getD w 0 / 16777216 ∧ o.code.getD w 0 / 16777216 ≤ 67
        · rw [if_pos a3]; exact .inr (.inr rfl)
        · rw [if_neg a3] at h0 h2
          by_cases a4 : o.code.getD w 0 / 16777216 = 96
          · rw [if_pos a4] at h2; exact absurd rfl h2
          · rw [if_neg a4] at h0; exact absurd rfl h0
theorem hcW_op : hcW / 16777216 = 96 := by decide
theorem map_sub (S : List Int) (i : Nat) (hi : i < S.length) : (S.map (2048 + ·)).getD i 0 - 2048 = S.getD i 0 := by
  rw [List.getD_eq_getElem?_getD, List.getElem?_map, List.getElem?_eq_getElem hi, List.getD_eq_getElem?_getD, List.getElem?_eq_getElem hi]
  show 2048 + S[i] - 2048 = S[i]
  omega
theorem maps_at {l : List Ob} (K : LkOk l (nmG l)) (K' : LkOk (rwObs l) (nmG (rwObs l))) (hr : (rwErr l).isErr = false) {i : Nat} (hi : i < (mpO (aV l) l l.length).length) {p q : Int} (hp : p = (mpO (aV l) l l.length).getD i 0 - 2048) (hq : q = (mpO (bV l) l l.length).getD i 0 - 2048) :
    (p = (imgM l (nmG l)).starts.getD i 0 ∧ q = (imgM (rwObs l) (nmG (rwObs l))).starts.getD i 0 ∧ 0 ≤ p ∧ p < (imgM l (nmG l)).code.length ∧ 0 ≤ q ∧ q < (imgM (rwObs l) (nmG (rwObs l))).code.length) ∧
    (isaClass ((imgM l (nmG l)).code.getD p.toNat 0 / 16777216) = 1 → isaClass ((imgM (rwObs l) (nmG (rwObs l))).code.getD q.toNat 0 / 16777216) = 1 ∧ ((imgM (rwObs l) (nmG (rwObs l))).code.getD q.toNat 0 / 16777216 ≠ (imgM l (nmG l)).code.getD p.toNat 0 / 16777216 → isaJumps ((imgM l (nmG l)).code.getD p.toNat 0 / 16777216) = true)) ∧
    (isaClass ((imgM l (nmG l)).code.getD p.toNat 0 / 16777216) ≠ 1 → q + 1 < (imgM (rwObs l) (nmG (rwObs l))).code.length ∧ (imgM (rwObs l) (nmG (rwObs l))).code.getD q.toNat 0 / 16777216 = 96 ∧ backB ((imgM (rwObs l) (nmG (rwObs l))).code.getD (q + 1).toNat 0) = true ∧ (backI ((imgM (rwObs l) (nmG (rwObs l))).code.getD (q + 1).toNat 0)).op = (imgM l (nmG l)).code.getD p.toNat 0 / 16777216) := by
  obtain ⟨hlen, o, k, ho, hk, e1, e2⟩ := mpO_at (aV l) (bV l) l l.length i hi
  obtain ⟨w, w1, w2, w3⟩ := st_at K.nm ho hk
  obtain ⟨v, v1, v2, _, v4, v5, v6, v7⟩ := rw_st K.nm hr ho w2 w3
  obtain ⟨r1, _, _, r4, r5⟩ := rw_ok hr
  have V := K.nm.val o ho
  have hmc := V.map
  have ho' : o < (rwObs l).length := by omega
  have ep : p = plN l (nmG l) (pix l o w) := by rw [hp, e1, w1]; unfold aV; rw [Int.toNat_natCast]; omega
  have eq : q = plN (rwObs l) (nmG (rwObs l)) (pix (rwObs l) o v) := by rw [hq, e2, w1]; unfold bV; rw [Int.toNat_natCast, v1]; unfold aV; rw [Int.toNat_natCast]; omega
  have s1 : (mpO (aV l) l l.length).getD i 0 - 2048 = (imgM l (nmG l)).starts.getD i 0 := by
    have h := hi
    rw [map_a K, List.length_map] at h
    rw [map_a K]; exact map_sub _ _ h
  have s2 : (mpO (bV l) l l.length).getD i 0 - 2048 = (imgM (rwObs l) (nmG (rwObs l))).starts.getD i 0 := by
    have h := hi
    rw [← hlen, map_b K K' hr, List.length_map] at h
    rw [map_b K K' hr]; exact map_sub _ _ h
  obtain ⟨a1, a2, a3⟩ := first_of K ho w2 w3
  obtain ⟨b1, b2, b3⟩ := first_of K' ho' v4 v5
  rw [← ep] at a1 a2 a3
  rw [← eq] at b1 b2 b3
  refine ⟨⟨by rw [hp, s1], by rw [hq, s2], a1, a2, b1, b2⟩, ?_⟩
  obtain ⟨c1, c2⟩ := class_123 (r1 o ho) (show w < (obN l o).code.length by omega) w3
  have rat := rw_at (obN l o).code (obN l o).map (obN l o).code.length w (by omega)
  have ec : (obN (rwObs l) o).code.getD v 0 = if isF (obN l o).code (obN l o).map w = true then hcW else (obN l o).code.getD w 0 := by rw [v6, v2]; exact rat.2.1
  have hF : isF (obN l o).code (obN l o).map w = (decide (isaClass ((obN l o).code.getD w 0 / 16777216) = 2) || decide (isaClass ((obN l o).code.getD w 0 / 16777216) = 3)) := by unfold isF; rw [decide_eq_true w3, Bool.true_and]
  by_cases hc : isaClass ((obN l o).code.getD w 0 / 16777216) = 1
  · rw [hc] at hF
    have hF : isF (obN l o).code (obN l o).map w = false := hF
    rw [if_neg (by rw [hF]; simp)] at ec
    rw [ec] at b3
    rcases a3 with ⟨s0, a3⟩ | ⟨s0, a3⟩
    · rcases b3 with ⟨_, b3⟩ | ⟨s1, _⟩
      · rw [a3, b3]; exact ⟨fun _ => ⟨hc, fun h => absurd rfl h⟩, fun h => absurd hc h⟩
      · rw [s0] at s1; cases s1
    · have hs := short_op s0
      have hcs := class_short s0
      rcases b3 with ⟨s1, _⟩ | ⟨_, b3⟩
      · rw [s0] at s1; cases s1
      · have n1 : isaClass ((imgM (rwObs l) (nmG (rwObs l))).code.getD q.toNat 0 / 16777216) = 1 := by rcases b3 with h | h <;> rw [h]; exact hcs.1; exact hcs.2
        have n2 : isaClass ((imgM l (nmG l)).code.getD p.toNat 0 / 16777216) = 1 := by rcases a3 with h | h <;> rw [h]; exact hcs.1; exact hcs.2
        have n3 : isaJumps ((imgM l (nmG l)).code.getD p.toNat 0 / 16777216) = true := by
          unfold isaJumps
          rw [decide_eq_true_eq]
          rcases a3 with h | h <;> rw [h] <;> omega
        exact ⟨fun _ => ⟨n1, fun _ => n3⟩, fun h => absurd n2 h⟩
  · have hc23 : isaClass ((obN l o).code.getD w 0 / 16777216) = 2 ∨ isaClass ((obN l o).code.getD w 0 / 16777216) = 3 := c1.resolve_left hc
    have hF : isF (obN l o).code (obN l o).map w = true := by rw [hF]; rcases hc23 with h | h <;> rw [h] <;> rfl
    rw [if_pos hF] at ec
    have s96 : shortM ((obN (rwObs l) o).code.getD v 0 / 16777216) = false := by rw [ec, hcW_op]; rfl
    have b3 : (imgM (rwObs l) (nmG (rwObs l))).code.getD q.toNat 0 = hcW := by
      rcases b3 with ⟨_, h⟩ | ⟨h, _⟩
      · rw [h, ec]
      · rw [s96] at h; cases h
    have a3 : (imgM l (nmG l)).code.getD p.toNat 0 = (obN l o).code.getD w 0 := by
      rcases a3 with ⟨_, h⟩ | ⟨h, _⟩
      · exact h
      · have := (class_short h).1; omega
    rw [a3, b3, hcW_op]
    refine ⟨fun h => absurd h hc, fun _ => ?_⟩
    have v5' : (obN (rwObs l) o).map.getD v 0 ≠ 0 := by rw [v5]; decide
    have hn' := pix_lt (l := rwObs l) ho' v4 v5'
    have I' := itAt_of (l := rwObs l) ho' v4 v5'
    have V' := K'.nm.val o ho'
    obtain ⟨i1, _, _, _, _, i6⟩ := V'.ins v4 v5
    have eI : itI (rwObs l) (pix (rwObs l) o v) = insI (obN (rwObs l) o).code (obN (rwObs l) o).map v := by unfold itI; rw [I'.own]; simp only [Int.toNat_natCast]
    have hC : ckC (rwObs l) (nmG (rwObs l)) (pix (rwObs l) o v) = wdL (rwObs l) (nmG (rwObs l)) o v (itS (itF (rwObs l) (nmG (rwObs l))) (pix (rwObs l) o v)).toNat := by
      rcases became K' I' v5 with ⟨_, h, _⟩ | ⟨_, _, h, _, _⟩ | ⟨_, _, h, _, _⟩
      · exact h
      · rw [eI, i6, s96] at h; cases h
      · rw [eI, i6, s96] at h; cases h
    have hsz : itS (itF (rwObs l) (nmG (rwObs l))) (pix (rwObs l) o v) = 2 := by
      rw [(I'.words K'.nm).1]; unfold szW twoB; rw [i1, i6, ec, hcW_op]; rfl
    rw [hsz] at hC
    have hR : wdR (rwObs l) o ((v : Int) + 1) = false := by
      cases h : wdR (rwObs l) o ((v : Int) + 1) with
      | false => rfl
      | true =>
        exfalso
        unfold wdR at h
        rw [Bool.and_eq_true] at h
        obtain ⟨j, j1, j2, _⟩ := rH_is ho' h.1
        have eR : (obN (rwObs l) o).crels = (obN l o).crels.map (relTo (rwTo (obN l o).code (obN l o).map)) := by
          rw [r5 o ho]; unfold rwOb doR ifOk; rw [r1 o ho]; rfl
        rw [eR, List.length_map] at j1
        have e3 : (relN (rwObs l) o j).at_ = placeI (rwTo (obN l o).code (obN l o).map) (relN l o j).at_ := by
          show ((obN (rwObs l) o).crels.getD j RT.rel.dflt).at_ = placeI _ ((obN l o).crels.getD j RT.rel.dflt).at_
          rw [eR, List.getD_eq_getElem?_getD, List.getElem?_map, List.getElem?_eq_getElem j1, List.getD_eq_getElem?_getD, List.getElem?_eq_getElem j1]; rfl
        obtain ⟨d1, d2, _⟩ := V.crel j1 _ rfl
        have e4 : placeI (rwTo (obN l o).code (obN l o).map) (relN l o j).at_ = ((rwC (obN l o).code (obN l o).map (relN l o j).at_.toNat).length : Int) := rwT_get _ _ _ _ _ (by show ((obN l o).crels.getD j RT.rel.dflt).at_.toNat < _; omega)
        rw [e3, e4] at j2
        have e5 : (rwC (obN l o).code (obN l o).map (w + 1)).length = (rwC (obN l o).code (obN l o).map w).length + 2 := by rw [rwC, if_pos hF, List.length_append]; rfl
        by_cases h1 : (relN l o j).at_.toNat < w
        · have := rwC_mono (obN l o).code (obN l o).map w h1; omega
        · by_cases h2 : (relN l o j).at_.toNat = w
          · rw [h2] at j2; omega
          · by_cases h3 : (relN l o j).at_.toNat = w + 1
            · rw [h3] at j2; omega
            · have := rwC_mono (obN l o).code (obN l o).map (i := w + 1) (relN l o j).at_.toNat (by omega)
              omega
    have hpl := K'.plN (n := pix (rwObs l) o v) (by rw [K'.bs.2.1]; omega)
    obtain ⟨x1, x2⟩ := code_at K' hn' (i := 1) (by rw [hC, wdL_len]; exact Nat.lt_succ_self 1)
    rw [← eq] at x1 x2 hpl
    have e6 : (q + 1).toNat = q.toNat + 1 := by omega
    have x3 : (imgM (rwObs l) (nmG (rwObs l))).code.getD (q + 1).toNat 0 = markW ((obN l o).code.getD w 0) := by
      rw [e6, x1, hC, wdL_get _ _ _ _ _ _ 1 (by decide)]
      show wdV (rwObs l) (nmG (rwObs l)) o ((v : Int) + 1) = _
      unfold wdV
      rw [if_neg (by rw [hR]; simp), Int.toNat_natCast, show ((v : Int) + 1).toNat = v + 1 by omega, v6, v2]
      exact (rat.2.2 hF).2
    rw [x3]
    obtain ⟨m1, m2⟩ := mark_back13 c2 hc23
    exact ⟨by omega, rfl, m1, m2⟩
end Go.Proofs.YtacmmedhjebfjaaDoor
set_option linter.unusedVariables false
set_option linter.unusedSimpArgs false
set_option linter.unusedSectionVars false
namespace Go.Proofs.YtacmmedhjebfjaaDoor
open Go.RowKit Go.Sy Go.Fac
section
variable {ea : Ear} {has : Int → Prop} {rest : List (Nat × SVal)} [ht : Nonempty (EType ea)]
def krBack13 : List SVal → Nat → Acc ORes := fun a n => match a with | [.int .u32 w] => .ret ({ v := .tuple [.agg (backI w.val).enc, .bool (.sym (backB w.val))] }) | _ => .fail "rBack13"
theorem argrBack13 (w : SI) : (all (subL tAtN none' [] deep [.int .u32 w] [.int .u32 (.full w.val)])) = (
 SI.val w = SI.val w) := by kernel_rfl
theorem runrBack13 (rest : List (Nat × SVal)) (w : Int) : (Tr.sat (plainQ (.tuple [.agg (backI w).enc, .bool (.sym (backB w))])) (run (env (G7 ++ rest) [(12, krOf), (22, krClass)]) [] (bodyOf Tryd.f24) (start [.int .u32 (.full w)] 31) (ends (env (G7 ++ rest) [(12, krOf), (22, krClass)]) Tryd.f24.results.toList))) = (
 IT (decide (w < 2147483648)) ((0 : Int) = (backI w).op ∧ (0 : Int) = (backI w).a ∧ (0 : Int) = (backI w).b ∧ (0 : Int) = (backI w).c ∧ (0 : Int) = (backI w).imm ∧ false = backB w) (IT (!ofOk (IntKind.wrap IntKind.u32 (w - 2147483648)) || !decide (isaClass (ofF (IntKind.wrap IntKind.u32 (w - 2147483648)) (0 : Int)).op = 2) && !decide (isaClass (ofF (IntKind.wrap IntKind.u32 (w - 2147483648)) (0 : Int)).op = 3)) ((0 : Int) = (backI w).op ∧ (0 : Int) = (backI w).a ∧ (0 : Int) = (backI w).b ∧ (0 : Int) = (backI w).c ∧ (0 : Int) = (backI w).imm ∧ false = backB w) ((ofF (IntKind.wrap IntKind.u32 (w - 2147483648)) (0 : Int)).op = (backI w).op ∧ (ofF (IntKind.wrap IntKind.u32 (w - 2147483648)) (0 : Int)).a = (backI w).a ∧ (ofF (IntKind.wrap IntKind.u32 (w - 2147483648)) (0 : Int)).b = (backI w).b ∧ (ofF (IntKind.wrap IntKind.u32 (w - 2147483648)) (0 : Int)).c = (backI w).c ∧ (ofF (IntKind.wrap IntKind.u32 (w - 2147483648)) (0 : Int)).imm = (backI w).imm ∧ true = backB w))) := by kernel_rfl
set_option maxHeartbeats 4000000 in
theorem crBack13 : Con ea has (G7 ++ rest) 24 krBack13 := by
 refine plain_mkB Tryd.func24 31 (con := [(12, krOf), (22, krClass)]) ⟨crOf, crClass, trivial⟩ (fun hA hr hv => ?_) (by kernel_rfl) (by kernel_rfl) Tryd.ntmps24
 unfold krBack13 at hr; split at hr
 ·rename_i w
  have := ret_ok hr; subst this
  refine ⟨_, [], rfl, rfl, .of (argrBack13 w) (by simp), rfl, (fun W R ρ0 own0 hown => noSums (by kernel_rfl)), .of (runrBack13 rest w.val) ?_⟩
  delta IT
  clear hr
  have hw := DenA.i0 hA
  have h1 := hw.lo; have h2 := hw.hi
  simp only [kmin, kmax] at h1 h2
  clear hA hv hw
  generalize w.val = w at *
  have hb := backB_eq (w := w) ⟨h1, by omega⟩
  have hu : unmark w = w % 2147483648 := mark_andNot
  refine ⟨fun h => ?_, fun h => ?_⟩
  ·rw [h] at hb
   simp at hb
   unfold backI; rw [hb]; exact ⟨rfl, rfl, rfl, rfl, rfl, rfl⟩
  ·have hl := of_decide_eq_false h
   have hw : IntKind.u32.wrap (w - 2147483648) = w % 2147483648 := by rw [IntKind.wrap_u32]; omega
   rw [hw]
   rw [h] at hb
   unfold backI
   rw [hu]
   refine ⟨fun g => ?_, fun g => ?_⟩
   ·have : backB w = false := by
     rw [hb]
     cases h3 : ofOk (w % 2147483648) <;> rw [h3] at g <;> simp at g ⊢
     exact g
    rw [this]; exact ⟨rfl, rfl, rfl, rfl, rfl, rfl⟩
   ·have : backB w = true := by
     rw [hb]
     cases h3 : ofOk (w % 2147483648) <;> rw [h3] at g <;> simp at g ⊢
     by_cases h4 : isaClass (ofF (w % 2147483648) 0).op = 2
     ·exact .inl h4
     ·exact .inr (g h4)
    rw [this]; exact ⟨rfl, rfl, rfl, rfl, rfl, rfl⟩
 ·cases hr
def HmapsL (l : List Ob) (i : Nat) : SState := { fr := [(3, .bool (.lit true)), (4, .ptr 0 0), (6, .ptr 1 0), (8, .ro .u32 (mpO (aV l) l l.length)), (9, .ro .u32 (mpO (bV l) l l.length)), (11, .int .i64 (.sym i 0 1000000))], hp := [(0, some (.cells (imgV (imgM l (nmG l))))), (1, some (.cells (imgV (imgM (rwObs l) (nmG (rwObs l))))))], next := 2, sz := 197 }
def XmapsL (l : List Ob) : SState := { fr := [(3, .bool (.lit true))], hp := [], next := 0, sz := 197 }
def LmapsL (l : List Ob) : LSum := ⟨HmapsL l 0, fun k => k (.exit 0) (XmapsL l), LkOk l (nmG l) ∧ LkOk (rwObs l) (nmG (rwObs l)) ∧ (rwErr l).isErr = false⟩
theorem bmapsL (rest : List (Nat × SVal)) (l : List Ob) (i : Nat) : (Tr.sat (rnd1 (env (G7 ++ rest) [(8, kfirst13), (9, kObjects), (10, kLinkC), (20, kPatched), (21, kMap), (22, krClass), (23, krJumps), (24, krBack13)]) (fun _ => True) ((mpO (aV l) l l.length).length) (HmapsL l) 0 (XmapsL l) i) (run (env (G7 ++ rest) [(8, kfirst13), (9, kObjects), (10, kLinkC), (20, kPatched), (21, kMap), (22, krClass), (23, krJumps), (24, krBack13)]) [] (loopN (bodyOf Tryd.f5) 0) (HmapsL l i) .leaf)) = (
 IT (decide ((↑i : Int) < (↑(List.length (mpO (aV l) l (List.length l))) : Int))) (RQ (0 ≤ (↑i : Int) ∧ (↑i : Int) < (↑(List.length (mpO (aV l) l (List.length l))) : Int)) (RQ (0 ≤ (↑i : Int) ∧ (↑i : Int) < (↑(List.length (mpO (bV l) l (List.length l))) : Int)) (RQ (0 ≤ (↑i : Int) ∧ (↑i : Int) < (↑(List.length (imgM l (nmG l)).starts) : Int)) (RQ ((!!decide (List.getD (mpO (aV l) l (List.length l)) (Int.toNat (↑i : Int)) (RT.dflt RT.u32) - 2048 = List.getD (imgM l (nmG l)).starts (Int.toNat (↑i : Int)) (RT.dflt RT.i64))) = true → 0 ≤ (↑i : Int) ∧ (↑i : Int) < (↑(List.length (imgM (rwObs l) (nmG (rwObs l))).starts) : Int)) (IT (!decide (List.getD (mpO (aV l) l (List.length l)) (Int.toNat (↑i : Int)) (RT.dflt RT.u32) - 2048 = List.getD (imgM l (nmG l)).starts (Int.toNat (↑i : Int)) (RT.dflt RT.i64)) || !decide (List.getD (mpO (bV l) l (List.length l)) (Int.toNat (↑i : Int)) (RT.dflt RT.u32) - 2048 = List.getD (imgM (rwObs l) (nmG (rwObs l))).starts (Int.toNat (↑i : Int)) (RT.dflt RT.i64)) || decide (List.getD (mpO (aV l) l (List.length l)) (Int.toNat (↑i : Int)) (RT.dflt RT.u32) - 2048 < (0 : Int)) || decide (List.getD (mpO (bV l) l (List.length l)) (Int.toNat (↑i : Int)) (RT.dflt RT.u32) - 2048 < (0 : Int)) || decide ((↑(List.length (imgM l (nmG l)).code) : Int) ≤ List.getD (mpO (aV l) l (List.length l)) (Int.toNat (↑i : Int)) (RT.dflt RT.u32) - 2048) || decide ((↑(List.length (imgM (rwObs l) (nmG (rwObs l))).code) : Int) ≤ List.getD (mpO (bV l) l (List.length l)) (Int.toNat (↑i : Int)) (RT.dflt RT.u32) - 2048)) False (RQ (0 ≤ List.getD (mpO (aV l) l (List.length l)) (Int.toNat (↑i : Int)) (RT.dflt RT.u32) - 2048 ∧ List.getD (mpO (aV l) l (List.length l)) (Int.toNat (↑i : Int)) (RT.dflt RT.u32) - 2048 < (↑(List.length (imgM l (nmG l)).code) : Int)) (RQ (0 ≤ List.getD (mpO (bV l) l (List.length l)) (Int.toNat (↑i : Int)) (RT.dflt RT.u32) - 2048 ∧ List.getD (mpO (bV l) l (List.length l)) (Int.toNat (↑i : Int)) (RT.dflt RT.u32) - 2048 < (↑(List.length (imgM (rwObs l) (nmG (rwObs l))).code) : Int)) (IT (decide (isaClass (List.getD (imgM l (nmG l)).code (Int.toNat (List.getD (mpO (aV l) l (List.length l)) (Int.toNat (↑i : Int)) (RT.dflt RT.u32) - 2048)) (RT.dflt RT.u32) / 16777216) = 1)) (IT (!decide (isaClass (List.getD (imgM (rwObs l) (nmG (rwObs l))).code (Int.toNat (List.getD (mpO (bV l) l (List.length l)) (Int.toNat (↑i : Int)) (RT.dflt RT.u32) - 2048)) (RT.dflt RT.u32) / 16777216) = 1) || !decide (List.getD (imgM (rwObs l) (nmG (rwObs l))).code (Int.toNat (List.getD (mpO (bV l) l (List.length l)) (Int.toNat (↑i : Int)) (RT.dflt RT.u32) - 2048)) (RT.dflt RT.u32) / 16777216 = List.getD (imgM l (nmG l)).code (Int.toNat (List.getD (mpO (aV l) l (List.length l)) (Int.toNat (↑i : Int)) (RT.dflt RT.u32) - 2048)) (RT.dflt RT.u32) / 16777216) && !isaJumps (List.getD (imgM l (nmG l)).code (Int.toNat (List.getD (mpO (aV l) l (List.length l)) (Int.toNat (↑i : Int)) (RT.dflt RT.u32) - 2048)) (RT.dflt RT.u32) / 16777216)) False (i < List.length (mpO (aV l) l (List.length l)) ∧ True ∧ true = true ∧ mpO (aV l) l (List.length l) = mpO (aV l) l (List.length l) ∧ mpO (bV l) l (List.length l) = mpO (bV l) l (List.length l) ∧ (↑i : Int) + 1 = (↑(i + 1) : Int) ∧ (0 ≤ (↑(i + 1) : Int) ∧ (↑(i + 1) : Int) ≤ 1000000) ∧ (imgM l (nmG l)).entry = (imgM l (nmG l)).entry ∧ (imgM l (nmG l)).data = (imgM l (nmG l)).data ∧ (imgM l (nmG l)).code = (imgM l (nmG l)).code ∧ (imgM l (nmG l)).drefs = (imgM l (nmG l)).drefs ∧ (imgM l (nmG l)).places = (imgM l (nmG l)).places ∧ (imgM l (nmG l)).starts = (imgM l (nmG l)).starts ∧ (imgM (rwObs l) (nmG (rwObs l))).entry = (imgM (rwObs l) (nmG (rwObs l))).entry ∧ (imgM (rwObs l) (nmG (rwObs l))).data = (imgM (rwObs l) (nmG (rwObs l))).data ∧ (imgM (rwObs l) (nmG (rwObs l))).code = (imgM (rwObs l) (nmG (rwObs l))).code ∧ (imgM (rwObs l) (nmG (rwObs l))).drefs = (imgM (rwObs l) (nmG (rwObs l))).drefs ∧ (imgM (rwObs l) (nmG (rwObs l))).places = (imgM (rwObs l) (nmG (rwObs l))).places ∧ (imgM (rwObs l) (nmG (rwObs l))).starts = (imgM (rwObs l) (nmG (rwObs l))).starts)) (RQ (0 ≤ List.getD (mpO (bV l) l (List.length l)) (Int.toNat (↑i : Int)) (RT.dflt RT.u32) - 2048 + (1 : Int) ∧ List.getD (mpO (bV l) l (List.length l)) (Int.toNat (↑i : Int)) (RT.dflt RT.u32) - 2048 + (1 : Int) < (↑(List.length (imgM (rwObs l) (nmG (rwObs l))).code) : Int)) (IT (!decide (List.getD (imgM (rwObs l) (nmG (rwObs l))).code (Int.toNat (List.getD (mpO (bV l) l (List.length l)) (Int.toNat (↑i : Int)) (RT.dflt RT.u32) - 2048)) (RT.dflt RT.u32) / 16777216 = (96 : Int)) || !backB (List.getD (imgM (rwObs l) (nmG (rwObs l))).code (Int.toNat (List.getD (mpO (bV l) l (List.length l)) (Int.toNat (↑i : Int)) (RT.dflt RT.u32) - 2048 + (1 : Int))) (RT.dflt RT.u32)) || !decide ((backI (List.getD (imgM (rwObs l) (nmG (rwObs l))).code (Int.toNat (List.getD (mpO (bV l) l (List.length l)) (Int.toNat (↑i : Int)) (RT.dflt RT.u32) - 2048 + (1 : Int))) (RT.dflt RT.u32))).op = List.getD (imgM l (nmG l)).code (Int.toNat (List.getD (mpO (aV l) l (List.length l)) (Int.toNat (↑i : Int)) (RT.dflt RT.u32) - 2048)) (RT.dflt RT.u32) / 16777216)) False (i < List.length (mpO (aV l) l (List.length l)) ∧ True ∧ true = true ∧ mpO (aV l) l (List.length l) = mpO (aV l) l (List.length l) ∧ mpO (bV l) l (List.length l) = mpO (bV l) l (List.length l) ∧ (↑i : Int) + 1 = (↑(i + 1) : Int) ∧ (0 ≤ (↑(i + 1) : Int) ∧ (↑(i + 1) : Int) ≤ 1000000) ∧ (imgM l (nmG l)).entry = (imgM l (nmG l)).entry ∧ (imgM l (nmG l)).data = (imgM l (nmG l)).data ∧ (imgM l (nmG l)).code = (imgM l (nmG l)).code ∧ (imgM l (nmG l)).drefs = (imgM l (nmG l)).drefs ∧ (imgM l (nmG l)).places = (imgM l (nmG l)).places ∧ (imgM l (nmG l)).starts = (imgM l (nmG l)).starts ∧ (imgM (rwObs l) (nmG (rwObs l))).entry = (imgM (rwObs l) (nmG (rwObs l))).entry ∧ (imgM (rwObs l) (nmG (rwObs l))).data = (imgM (rwObs l) (nmG (rwObs l))).data ∧ (imgM (rwObs l) (nmG (rwObs l))).code = (imgM (rwObs l) (nmG (rwObs l))).code ∧ (imgM (rwObs l) (nmG (rwObs l))).drefs = (imgM (rwObs l) (nmG (rwObs l))).drefs ∧ (imgM (rwObs l) (nmG (rwObs l))).places = (imgM (rwObs l) (nmG (rwObs l))).places ∧ (imgM (rwObs l) (nmG (rwObs l))).starts = (imgM (rwObs l) (nmG (rwObs l))).starts))))))))))) (Nat.beq (0 : Nat) (0 : Nat) = true ∧ true = true)) := by kernel_rfl
set_option maxHeartbeats 4000000 in
theorem lmapsL (l : List Ob) {W : World} {R own0 : Nat → Prop} {ρ0 : Nat → Option Value} (hown : HownOk (env (G7 ++ rest) [(8, kfirst13), (9, kObjects), (10, kLinkC), (20, kPatched), (21, kMap), (22, krClass), (23, krJumps), (24, krBack13)]) own0 ρ0) : LOk Tryd.prog (env (G7 ++ rest) [(8, kfirst13), (9, kObjects), (10, kLinkC), (20, kPatched), (21, kMap), (22, krClass), (23, krJumps), (24, krBack13)]) (ctx ea has) (G7 ++ rest) W R own0 ρ0 (loopN (bodyOf Tryd.f5) 0) (LmapsL l) := by
 refine loop1_ok (J := fun _ => True) (N := (mpO (aV l) l l.length).length) (H := HmapsL l) (X := XmapsL l) (env_ok (con := [(8, kfirst13), (9, kObjects), (10, kLinkC), (20, kPatched), (21, kMap), (22, krClass), (23, krJumps), (24, krBack13)]) ⟨cfirst13, cObjects, cLinkC, cPatched, cMap, crClass, crJumps, crBack13, trivial⟩) hown (ls := fun i => []) (fun i => noSums (by kernel_rfl)) (fun hm i hi hj => ?_) 0 (fun hm => by first | exact Nat.zero_le _ | omega) (fun hm => trivial)
 rw [bmapsL rest l i]
 delta RQ IT
 simp only [Int.toNat_natCast, eq_self, true_and, and_true]
 obtain ⟨K, K', hr⟩ := hm
 have B := img_few K
 have B' := img_few K'
 have la : (mpO (aV l) l l.length).length = (imgM l (nmG l)).starts.length := by rw [map_a K, List.length_map]
 have lb : (mpO (bV l) l l.length).length = (imgM (rwObs l) (nmG (rwObs l))).starts.length := by rw [map_b K K' hr, List.length_map]
 have hab : ∀ n, (mpO (bV l) l n).length = (mpO (aV l) l n).length := fun n => by
  induction n with
  | zero => rfl
  | succ n ih => rw [mpO_succ, mpO_succ, List.length_append, List.length_append, ih, List.length_map, List.length_map]
 have hab := hab l.length
 refine ⟨fun h => ?_, fun h => ?_⟩
 ·have h := of_decide_eq_true h
  have hlt : i < (mpO (aV l) l l.length).length := by omega
  obtain ⟨⟨f1, f2, f3, f4, f5, f6⟩, F1, F2⟩ := maps_at K K' hr hlt rfl rfl
  refine ⟨by omega, fun _ => ⟨by omega, fun _ => ⟨by omega, fun _ => ⟨fun _ => by omega, fun _ => ⟨fun g => ?_, fun _ => ⟨⟨f3, f4⟩, fun _ => ⟨⟨f5, f6⟩, fun _ => ⟨fun c => ⟨fun g => ?_, fun _ => ⟨hlt, by omega, by omega⟩⟩, fun c => ?_⟩⟩⟩⟩⟩⟩⟩⟩
  ·simp only [Bool.or_eq_true, Bool.not_eq_true', decide_eq_false_iff_not, decide_eq_true_eq] at g
   rcases g with ((((g | g) | g) | g) | g) | g
   ·exact g f1
   ·exact g f2
   ·exact absurd f3 (Int.not_le.2 g)
   ·exact absurd f5 (Int.not_le.2 g)
   ·exact absurd f4 (Int.not_lt.2 g)
   ·exact absurd f6 (Int.not_lt.2 g)
  ·obtain ⟨c1, c2⟩ := F1 (of_decide_eq_true c)
   rw [Bool.or_eq_true, Bool.and_eq_true, Bool.not_eq_true', decide_eq_false_iff_not, Bool.not_eq_true', decide_eq_false_iff_not, Bool.not_eq_true'] at g
   rcases g with g | ⟨g, g'⟩
   ·exact g c1
   ·exact Bool.noConfusion (g'.symm.trans (c2 g))
  ·obtain ⟨c1, c2, c3, c4⟩ := F2 (of_decide_eq_false c)
   refine ⟨⟨Int.le_add_one f5, c1⟩, fun _ => ⟨fun g => ?_, fun _ => ⟨hlt, by omega, by omega⟩⟩⟩
   rw [Bool.or_eq_true, Bool.or_eq_true, Bool.not_eq_true', decide_eq_false_iff_not, Bool.not_eq_true', Bool.not_eq_true', decide_eq_false_iff_not] at g
   rcases g with (g | g) | g
   ·exact g c2
   ·exact Bool.noConfusion (g.symm.trans c3)
   ·exact g c4
 ·exact rfl
def kLinkMaps : List SVal → Nat → Acc ORes := fun a n => match a with | [.ro .obj l] => .ret ({ v := .bool (.lit true) }) | _ => .fail "LinkMaps"
theorem argLinkMaps (l : List Ob) : (all (subL tAtN none' [] deep [.ro .obj l] [.ro .obj l])) = (
 l = l) := by kernel_rfl
theorem runLinkMaps (rest : List (Nat × SVal)) (l : List Ob) : (Tr.sat (plainQ (.bool (.lit true))) (run (env (G7 ++ rest) [(8, kfirst13), (9, kObjects), (10, kLinkC), (20, kPatched), (21, kMap), (22, krClass), (23, krJumps), (24, krBack13)]) [(14, LmapsL l)] (bodyOf Tryd.f5) (start [.ro .obj l] 197) (ends (env (G7 ++ rest) [(8, kfirst13), (9, kObjects), (10, kLinkC), (20, kPatched), (21, kMap), (22, krClass), (23, krJumps), (24, krBack13)]) Tryd.f5.results.toList))) = (
 RQ ((4 : Int) ≤ (1000000 : Int) ∧ (0 : Int) ≤ (150 : Int) ∧ (150 : Int) ≤ (1000000 : Int)) (IT (!objsB l (4 : Int) (150 : Int)) (true = true) (RQ (List.length l ≤ 1000000) (RQ (List.length l ≤ 1000000) (IT (!!FErr.isErr (laidE l) || !!FErr.isErr (patE l)) ((!!FErr.isErr (mapE l) && decide ((↑(List.length (ifOk (mapE l) (mpO (aV l) l (List.length l)))) : Int) = 0) && decide ((↑(List.length (ifOk (mapE l) (mpO (bV l) l (List.length l)))) : Int) = 0)) = true) (IT (!!FErr.isErr (mapE l) || !decide ((↑(List.length (ifOk (mapE l) (mpO (aV l) l (List.length l)))) : Int) = (↑(List.length (linkI l).starts) : Int)) || !decide ((↑(List.length (ifOk (mapE l) (mpO (bV l) l (List.length l)))) : Int) = (↑(List.length (patI l).starts) : Int)) || !decide ((↑(List.length (ifOk (mapE l) (mpO (aV l) l (List.length l)))) : Int) = (↑(List.length (ifOk (mapE l) (mpO (bV l) l (List.length l)))) : Int))) (false = true) (RQ ((LkOk l (nmG l) ∧ LkOk (rwObs l) (nmG (rwObs l)) ∧ FErr.isErr (rwErr l) = false) ∧ true = true ∧ ifOk (mapE l) (mpO (aV l) l (List.length l)) = mpO (aV l) l (List.length l) ∧ ifOk (mapE l) (mpO (bV l) l (List.length l)) = mpO (bV l) l (List.length l) ∧ (0 : Int) = (↑(0 : Nat) : Int) ∧ (linkI l).entry = (imgM l (nmG l)).entry ∧ (linkI l).data = (imgM l (nmG l)).data ∧ (linkI l).code = (imgM l (nmG l)).code ∧ (linkI l).drefs = (imgM l (nmG l)).drefs ∧ (linkI l).places = (imgM l (nmG l)).places ∧ (linkI l).starts = (imgM l (nmG l)).starts ∧ (patI l).entry = (imgM (rwObs l) (nmG (rwObs l))).entry ∧ (patI l).data = (imgM (rwObs l) (nmG (rwObs l))).data ∧ (patI l).code = (imgM (rwObs l) (nmG (rwObs l))).code ∧ (patI l).drefs = (imgM (rwObs l) (nmG (rwObs l))).drefs ∧ (patI l).places = (imgM (rwObs l) (nmG (rwObs l))).places ∧ (patI l).starts = (imgM (rwObs l) (nmG (rwObs l))).starts) (true = true)))))))) := by kernel_rfl
set_option maxHeartbeats 4000000 in
theorem cLinkMaps : Con ea has (G7 ++ rest) 5 kLinkMaps := by
 refine plain_mkB Tryd.func5 197 (con := [(8, kfirst13), (9, kObjects), (10, kLinkC), (20, kPatched), (21, kMap), (22, krClass), (23, krJumps), (24, krBack13)]) ⟨cfirst13, cObjects, cLinkC, cPatched, cMap, crClass, crJumps, crBack13, trivial⟩ (fun hA hr hv => ?_) (by kernel_rfl) (by kernel_rfl) Tryd.ntmps5
 unfold kLinkMaps at hr; split at hr
 ·rename_i l
  have := ret_ok hr; subst this
  refine ⟨_, [(14, LmapsL l)], rfl, rfl, .of (argLinkMaps l) (by simp), rfl, (fun W R ρ0 own0 hown => hl1 (by kernel_rfl) (by kernel_rfl) (lmapsL l hown)), .of (runLinkMaps rest l) ?_⟩
  delta RQ IT
  clear hr
  clear hA
  have hL : linkI l = _ := linkI.eq_1 l
  have hP : patI l = _ := patI.eq_1 l
  have hPE : patE l = _ := patE.eq_1 l
  have hM : mapE l = _ := mapE.eq_1 l
  have hl : objsB l 4 150 = true → l.length ≤ 1000000 := fun h => by
   unfold objsB at h
   rw [Bool.and_eq_true, Bool.not_eq_true', decide_eq_false_iff_not] at h
   omega
  refine ⟨⟨by decide, by decide, by decide⟩, fun _ => ⟨fun _ => rfl, fun h => ?_⟩⟩
  have h4 := hl (by simpa using h)
  refine ⟨h4, fun _ => ⟨h4, fun _ => ⟨fun g => ?_, fun g => ?_⟩⟩⟩
  ·have hm : (mapE l).isErr = true := by
    rw [Bool.or_eq_true] at g
    rw [hM]
    by_cases h1 : (laidE l).isErr = true
    ·rw [if_pos h1]; exact h1
    ·rw [if_neg h1]
     have g : (patE l).isErr = true := by
      rcases g with g | g
      ·simp at g; exact absurd g h1
      ·simpa using g
     rw [hPE] at g
     by_cases h2 : (rwErr l).isErr = true
     ·rw [if_pos h2]; exact h2
     ·rw [if_neg h2] at g ⊢; exact g
   unfold ifOk
   rw [hm]; rfl
  ·rw [Bool.or_eq_false_iff] at g
   have g1 : (laidE l).isErr = false := by simpa using g.1
   have g2 : (patE l).isErr = false := by simpa using g.2
   have hr : (rwErr l).isErr = false := by
    cases h2 : (rwErr l).isErr with
    | false => rfl
    | true => rw [if_pos h2] at hPE; rw [hPE, h2] at g2; cases g2
   rw [if_neg (by rw [hr]; simp)] at hPE hP
   rw [hPE] at g2
   rw [if_neg (by rw [g1]; simp), if_neg (by rw [hr]; simp)] at hM
   have hm : (mapE l).isErr = false := by rw [hM]; exact g2
   rw [if_neg (by rw [g1]; simp)] at hL
   have hL' : linkI (rwObs l) = imgM (rwObs l) (nmG (rwObs l)) := by unfold linkI; rw [if_neg (by rw [g2]; simp)]
   have K := (laid_ok g1).1
   have K' := (laid_ok g2).1
   have la : (mpO (aV l) l l.length).length = (imgM l (nmG l)).starts.length := by rw [map_a K, List.length_map]
   have lb : (mpO (bV l) l l.length).length = (imgM (rwObs l) (nmG (rwObs l))).starts.length := by rw [map_b K K' hr, List.length_map]
   have hab : ∀ n, (mpO (bV l) l n).length = (mpO (aV l) l n).length := fun n => by
    induction n with
    | zero => rfl
    | succ n ih => rw [mpO_succ, mpO_succ, List.length_append, List.length_append, ih, List.length_map, List.length_map]
   have hab := hab l.length
   have eI : ∀ z : List Int, ifOk (mapE l) z = z := fun z => by unfold ifOk; rw [hm]; rfl
   rw [hL, hP, hL', eI, eI, hm]
   refine ⟨fun g => ?_, fun _ => ⟨⟨⟨K, K', hr⟩, rfl, rfl, rfl, rfl, rfl, rfl, rfl, rfl, rfl, rfl, rfl, rfl, rfl, rfl, rfl, rfl⟩, fun _ => rfl⟩⟩
   rw [decide_eq_true (by omega), decide_eq_true (by omega), decide_eq_true (by omega)] at g
   cases g
 ·cases hr
end
end Go.Proofs.YtacmmedhjebfjaaDoor
set_option linter.unusedVariables false
set_option linter.unusedSimpArgs false
set_option maxRecDepth 100000
namespace Go.Proofs.YtacmmedhjebfjaaDoor
open Go.ChangeShapes Go.RowKit Go.Sy
theorem own : ownKnob Tryd.prog.godebug = none := by kernel_rfl
theorem laidOut : laidOutB Tryd.prog = true := by kernel_rfl
theorem op_i64 : Opens Tryd.prog 3 .i64 := opens_i64 (by kernel_rfl) Tryd.underlying3
theorem op_bool : Opens Tryd.prog 4 .bool := opens_bool (by kernel_rfl) Tryd.underlying4
theorem op_str : Opens Tryd.prog 9 .str := opens_str (by kernel_rfl) Tryd.underlying9
theorem op_u8 : Opens Tryd.prog 5 .u8 := opens_u8 (by kernel_rfl) Tryd.underlying5
theorem op_u32 : Opens Tryd.prog 25 .u32 := opens_u32 (by kernel_rfl) Tryd.underlying25
theorem op_rel : Opens Tryd.prog 69 .rel := opens_rel (by kernel_rfl) Tryd.underlying69 rfl rfl rfl rfl rfl rfl rfl rfl op_i64
theorem op_sym : Opens Tryd.prog 67 .sym := opens_sym (by kernel_rfl) Tryd.underlying67 rfl rfl rfl rfl rfl rfl rfl rfl op_str op_i64 op_bool
section
variable {W : World} {H : Type} {enc : TypeId × Value → H} {C : Ctx} {R : Nat → Prop} {ρ : Nat → Option Value} {base : Nat} {sp : Nat → Bool} {held : Bool} {r : Reach} {b0 : Nat}
end
def txt : DataW Unit → List UInt8
 | .iface _ (.ptr (.agg [.lit (.string s)])) => s
 | _ => []
def L7 : List Snt := [⟨"facade/api.ErrShape", 3, 102, txt Rows.laid_facade_api_ErrShape⟩, ⟨"facade/api.ErrRange", 7, 103, txt Rows.laid_facade_api_ErrRange⟩, ⟨"facade/api.ErrMany", 1, 104, txt Rows.laid_facade_api_ErrMany⟩,
 ⟨"facade/api.ErrOp", 6, 105, txt Rows.laid_facade_api_ErrOp⟩, ⟨"facade/api.ErrTwice", 2, 106, txt Rows.laid_facade_api_ErrTwice⟩, ⟨"facade/api.ErrNone", 0, 107, txt Rows.laid_facade_api_ErrNone⟩, ⟨"facade/api.ErrMap", 4, 109, txt Rows.laid_facade_api_ErrMap⟩]
abbrev nmE : String := "*errors.errorString"
theorem star : "*" ++ "errors.errorString" = nmE := by decide
theorem err_types : ErrTypes Tryd.prog 31 193 214 9 nmE where
 hi := ⟨_, Tryd.underlying31⟩
 row := fun u h => typeName_ptr_named (nm := "errors.errorString") (by rw [star]; kernel_rfl) (by kernel_rfl) (by decide) u (by rw [star]; exact h)
 hp := Tryd.underlying193
 he := ⟨_, Tryd.underlying214, rfl, rfl⟩
 hs := Tryd.underlying9
 ce := by kernel_rfl
 cs := by kernel_rfl
theorem named_of {L : List Snt} (h : (L.all fun x => Tryd.prog.globalNamed x.name == some x.g && (Tryd.prog.globals[x.g]?).map (·.type) == some 31) = true) : ∀ x ∈ L, Tryd.prog.globalNamed x.name = some x.g ∧ (Tryd.prog.globals[x.g]?).map (·.type) = some 31 := fun x hx => by
 have := List.all_eq_true.1 h x hx
 simpa using this
end Go.Proofs.YtacmmedhjebfjaaDoor
