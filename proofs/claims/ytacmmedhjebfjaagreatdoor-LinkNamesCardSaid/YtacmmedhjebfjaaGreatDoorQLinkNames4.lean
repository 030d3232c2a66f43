/- Contracts that the proofs use. -/
import Derived.Test.YtacmmedhjebfjaaGreatDoorQLinkNames3
set_option linter.unusedVariables false
set_option linter.unusedSimpArgs false
namespace Go.Proofs.YtacmmedhjebfjaaGreatDoor
open Go.RowKit Go.Sy
section
variable {ea : Ear} {has : Int → Prop} {gl : List (Nat × SVal)}
abbrev itT : RT := .flat (.int .i64) [.int .i64, .bool]
def itS (l : List itT.ty) (i : Nat) : Int := (l.getD i itT.dflt).1
def itG (l : List itT.ty) (i : Nat) : Int := (l.getD i itT.dflt).2.1
def itB (l : List itT.ty) (i : Nat) : Bool := (l.getD i itT.dflt).2.2
def ItOk (l : List itT.ty) : Prop := l.length ≤ 4096 ∧ ∀ i, 0 ≤ itS l i ∧ itS l i ≤ 2048
def plS (l : List itT.ty) (g : List Bool) : Nat → Int
 | 0 => 0
 | i + 1 => plS l g i + itS l i + if g.getD i false = true then 1 else 0
def plL (l : List itT.ty) (g : List Bool) : Nat → List Int
 | 0 => []
 | i + 1 => plL l g i ++ [plS l g i]
theorem plL_len (l : List itT.ty) (g : List Bool) : ∀ i, (plL l g i).length = i
 | 0 => rfl
 | i + 1 => by rw [plL, List.length_append, plL_len l g i]; rfl
theorem plS_le {l : List itT.ty} (h : ItOk l) (g : List Bool) : ∀ i, 0 ≤ plS l g i ∧ plS l g i ≤ 2049 * i
 | 0 => ⟨Int.le_refl _, by simp [plS]⟩
 | i + 1 => by
  have := plS_le h g i
  have h2 := h.2 i
  unfold plS
  split <;> omega
theorem plL_get (l : List itT.ty) (g : List Bool) : ∀ n i, i < n → (plL l g n).getD i 0 = plS l g i
 | 0, i, h => by omega
 | n + 1, i, h => by
  rw [plL]
  by_cases e : i < n
  ·rw [← plL_get l g n i e, List.getD_eq_getElem?_getD, List.getD_eq_getElem?_getD, List.getElem?_append_left (by rw [plL_len]; exact e)]
  ·have : i = n := by omega
   subst this
   rw [List.getD_eq_getElem?_getD, List.getElem?_append_right (by rw [plL_len]; omega), plL_len]; simp
def plA (l : List itT.ty) (g : List Bool) : List Int := plL l g (l.length + 1)
def HPl (l : List itT.ty) (g : List Bool) (i : Nat) : SState := { fr := [(0, .ro itT l), (1, .ro .bool g), (5, .int .i64 (.full (plS l g i))), (6, .own 0), (14, .ro itT l), (15, .int .i64 (.full l.length)), (16, .int .i64 (.sym i 0 1000000))], hp := [(0, some (.recs .i64 (plL l g i)))], next := 1, sz := 40 }
def XPl (l : List itT.ty) (g : List Bool) : SState := { fr := [(5, .int .i64 (.full (plS l g l.length))), (6, .own 0)], hp := [(0, some (.recs .i64 (plL l g l.length)))], next := 1, sz := 40 }
def LPl (l : List itT.ty) (g : List Bool) : LSum := ⟨HPl l g 0, fun k => k (.exit 0) (XPl l g), ItOk l ∧ g.length = l.length⟩
theorem bPl (gl : List (Nat × SVal)) (l : List itT.ty) (g : List Bool) (i : Nat) : (Tr.sat (rnd1 (env gl []) (fun _ => True) (l.length) (HPl l g) 0 (XPl l g) i) (run (env gl []) [] (loopN (bodyOf Tryz.f47) 0) (HPl l g i) .leaf)) = (
 IT (decide ((↑i : Int) < (↑(List.length l) : Int))) (RQ (0 ≤ (↑i : Int) ∧ (↑i : Int) < (↑(List.length l) : Int)) (RQ (List.length (plL l g i) + List.length [plS l g i] ≤ 137438953472) (RQ (0 ≤ (↑i : Int) ∧ (↑i : Int) < (↑(List.length g) : Int)) (IT (List.getD g (Int.toNat (↑i : Int)) (RT.dflt RT.bool)) (i < List.length l ∧ True ∧ l = l ∧ g = g ∧ IntKind.wrap IntKind.i64 (IntKind.wrap IntKind.i64 (plS l g i + (List.getD l (Int.toNat (↑i : Int)) (RT.dflt (RT.flat (FK.int IntKind.i64) [FK.int IntKind.i64, FK.bool]))).fst) + 1) = plS l g (i + 1) ∧ l = l ∧ (↑(List.length l) : Int) = (↑(List.length l) : Int) ∧ (↑i : Int) + 1 = (↑(i + 1) : Int) ∧ (0 ≤ (↑(i + 1) : Int) ∧ (↑(i + 1) : Int) ≤ 1000000) ∧ plL l g i ++ [plS l g i] = plL l g (i + 1)) (i < List.length l ∧ True ∧ l = l ∧ g = g ∧ IntKind.wrap IntKind.i64 (plS l g i + (List.getD l (Int.toNat (↑i : Int)) (RT.dflt (RT.flat (FK.int IntKind.i64) [FK.int IntKind.i64, FK.bool]))).fst) = plS l g (i + 1) ∧ l = l ∧ (↑(List.length l) : Int) = (↑(List.length l) : Int) ∧ (↑i : Int) + 1 = (↑(i + 1) : Int) ∧ (0 ≤ (↑(i + 1) : Int) ∧ (↑(i + 1) : Int) ≤ 1000000) ∧ plL l g i ++ [plS l g i] = plL l g (i + 1)))))) (Nat.beq (0 : Nat) (0 : Nat) = true ∧ plS l g i = plS l g (List.length l) ∧ plL l g i = plL l g (List.length l))) := by kernel_rfl
set_option maxHeartbeats 4000000 in
theorem lPl (l : List itT.ty) (g : List Bool) {W : World} {R own0 : Nat → Prop} {ρ0 : Nat → Option Value} (hown : HownOk (env gl []) own0 ρ0) : LOk Tryz.prog (env gl []) (ctx ea has) gl W R own0 ρ0 (loopN (bodyOf Tryz.f47) 0) (LPl l g) := by
 refine loop1_ok (J := fun _ => True) (N := l.length) (H := HPl l g) (X := XPl l g) (env_ok (con := []) trivial) hown (ls := fun i => []) (fun i => noSums (by kernel_rfl)) (fun hm i hi hj => ?_) 0 (fun hm => by first | exact Nat.zero_le _ | omega) (fun hm => trivial)
 rw [bPl gl l g i]
 delta RQ IT
 obtain ⟨hm, hg⟩ := hm
 have hb := plS_le hm g i
 have hs := hm.2 i
 have hn := hm.1
 have hlen := plL_len l g i
 have db : RT.bool.dflt = false := rfl
 simp only [Int.toNat_natCast, db, hlen, List.length_singleton]
 refine ⟨fun h => ?_, fun h => ?_⟩
 ·have h := of_decide_eq_true h
  refine ⟨by omega, fun _ => ⟨by omega, fun _ => ⟨by omega, fun _ => ⟨fun h2 => ?_, fun h2 => ?_⟩⟩⟩⟩
  ·have e : IntKind.i64.wrap (IntKind.i64.wrap (plS l g i + itS l i) + 1) = plS l g (i + 1) := by
    have w1 : IntKind.i64.wrap (plS l g i + itS l i) = plS l g i + itS l i := by rw [IntKind.wrap_i64]; omega
    rw [w1, IntKind.wrap_i64, plS, if_pos h2]; omega
   exact ⟨by omega, trivial, trivial, trivial, e, trivial, trivial, by omega, by omega, rfl⟩
  ·have e : IntKind.i64.wrap (plS l g i + itS l i) = plS l g (i + 1) := by
    rw [IntKind.wrap_i64, plS, if_neg (by rw [h2]; simp)]; omega
   exact ⟨by omega, trivial, trivial, trivial, e, trivial, trivial, by omega, by omega, rfl⟩
 ·have h := of_decide_eq_false h
  have : i = l.length := by omega
  subst this; exact ⟨rfl, rfl, rfl⟩
def kPlaces : List SVal → Nat → Acc ORes := fun a n => match a with | [.ro (.flat (.int .i64) [.int .i64, .bool]) l, .ro .bool g] => .ret (newR n (.own 0) ([(0, .recs .i64 (plA l g))]) 1 (some (ItOk l ∧ g.length = l.length))) | _ => .fail "Places"
theorem argPlaces (l : List itT.ty) (g : List Bool) : (all (subL tAtN none' [] deep [.ro (.flat (.int .i64) [.int .i64, .bool]) l, .ro .bool g] [.ro itT l, .ro .bool g])) = (
 l = l ∧ g = g) := by kernel_rfl
theorem runPlaces (gl : List (Nat × SVal)) (l : List itT.ty) (g : List Bool) : (Tr.sat (newQ (env gl []) (.own 0) ([(0, .recs .i64 (plA l g))]) 1) (run (env gl []) [(6, LPl l g)] (bodyOf Tryz.f47) (start [.ro itT l, .ro .bool g] 40) (ends (env gl []) Tryz.f47.results.toList))) = (
 IT (!decide ((↑(List.length l) : Int) = (↑(List.length g) : Int))) (@List.nil (RT.ty RT.i64) = plA l g) (RQ ((ItOk l ∧ List.length g = List.length l) ∧ l = l ∧ g = g ∧ (0 : Int) = plS l g (0 : Nat) ∧ l = l ∧ (↑(List.length l) : Int) = (↑(List.length l) : Int) ∧ (0 : Int) = (↑(0 : Nat) : Int) ∧ @List.nil (RT.ty RT.i64) = plL l g (0 : Nat)) (RQ (List.length (plL l g (List.length l)) + List.length [plS l g (List.length l)] ≤ 137438953472) (plL l g (List.length l) ++ [plS l g (List.length l)] = plA l g)))) := by kernel_rfl
set_option maxHeartbeats 4000000 in
theorem cPlaces : Con ea has gl 47 kPlaces := by
 refine new_mkB Tryz.func47 40 (con := []) trivial (fun hA hr hv => ?_) (by kernel_rfl) (by kernel_rfl) Tryz.ntmps47
 unfold kPlaces at hr; split at hr
 ·rename_i l g
  have := ret_ok hr; subst this
  replace hv := hv _ rfl
  refine ⟨_, [(6, LPl l g)], _, _, _, ⟨rfl, rfl, rfl⟩, .of (argPlaces l g) (by simp), rfl, rfl, (fun W R ρ0 own0 hown => hl1 (by kernel_rfl) (by kernel_rfl) (lPl l g hown)), .of (runPlaces gl l g) ?_⟩
  delta RQ IT
  clear hr
  obtain ⟨h1, h2⟩ := hv
  have hlen := plL_len l g l.length
  have hn := h1.1
  refine ⟨fun h => by simp [h2] at h, fun h => ⟨⟨⟨h1, h2⟩, rfl, rfl, rfl, rfl, rfl, rfl, rfl⟩, fun _ => ⟨by rw [hlen, List.length_singleton]; omega, fun _ => rfl⟩⟩⟩
 ·cases hr
abbrev kPlacesB := borN [.ro itT, .ro .bool] kPlaces
theorem cPlacesB : Con ea has gl 47 kPlacesB := borN_ok cPlaces _
def fitsB (l : List itT.ty) (p : List Int) (i : Int) : Bool :=
 decide (-128 ≤ p.getD (itG l i.toNat).toNat 0 - p.getD i.toNat 0) && decide (p.getD (itG l i.toNat).toNat 0 - p.getD i.toNat 0 ≤ 127)
theorem fits_w (p : List Int) (a b : Nat) (h : ∀ j, 0 ≤ p.getD j 0 ∧ p.getD j 0 ≤ 100000000) : IntKind.i64.wrap (p.getD a 0 - p.getD b 0) = p.getD a 0 - p.getD b 0 := by
 have h1 := h a; have h2 := h b; rw [IntKind.wrap_i64]; omega
def klfits : List SVal → Nat → Acc ORes := fun a n => match a with | [.ro (.flat (.int .i64) [.int .i64, .bool]) l, .ro .i64 p, .int .i64 i] => .ret ({ v := .bool (.sym (fitsB l p i.val)), vc := some (0 ≤ i.val ∧ i.val < l.length ∧ p.length = l.length + 1 ∧ 0 ≤ itG l i.val.toNat ∧ itG l i.val.toNat ≤ l.length ∧ ∀ j, 0 ≤ p.getD j 0 ∧ p.getD j 0 ≤ 100000000) }) | _ => .fail "lfits"
theorem arglfits (l : List itT.ty) (p : List Int) (i : SI) : (all (subL tAtN none' [] deep [.ro (.flat (.int .i64) [.int .i64, .bool]) l, .ro .i64 p, .int .i64 i] [.ro itT l, .ro .i64 p, .int .i64 (.full i.val)])) = (
 l = l ∧ p = p ∧ SI.val i = SI.val i) := by kernel_rfl
theorem runlfits (gl : List (Nat × SVal)) (l : List itT.ty) (p : List Int) (i : Int) : (Tr.sat (plainQ (.bool (.sym (fitsB l p i)))) (run (env gl []) [] (bodyOf Tryz.f66) (start [.ro itT l, .ro .i64 p, .int .i64 (.full i)] 27) (ends (env gl []) Tryz.f66.results.toList))) = (
 RQ (0 ≤ i ∧ i < (↑(List.length l) : Int)) (RQ (0 ≤ (List.getD l (Int.toNat i) (RT.dflt (RT.flat (FK.int IntKind.i64) [FK.int IntKind.i64, FK.bool]))).snd.fst ∧ (List.getD l (Int.toNat i) (RT.dflt (RT.flat (FK.int IntKind.i64) [FK.int IntKind.i64, FK.bool]))).snd.fst < (↑(List.length p) : Int)) (RQ (0 ≤ i ∧ i < (↑(List.length p) : Int)) ((decide ((-128 : Int) ≤ IntKind.wrap IntKind.i64 (List.getD p (Int.toNat (List.getD l (Int.toNat i) (RT.dflt (RT.flat (FK.int IntKind.i64) [FK.int IntKind.i64, FK.bool]))).snd.fst) (RT.dflt RT.i64) - List.getD p (Int.toNat i) (RT.dflt RT.i64))) && decide (IntKind.wrap IntKind.i64 (List.getD p (Int.toNat (List.getD l (Int.toNat i) (RT.dflt (RT.flat (FK.int IntKind.i64) [FK.int IntKind.i64, FK.bool]))).snd.fst) (RT.dflt RT.i64) - List.getD p (Int.toNat i) (RT.dflt RT.i64)) ≤ 127)) = fitsB l p i)))) := by kernel_rfl
set_option maxHeartbeats 4000000 in
theorem clfits : Con ea has gl 66 klfits := by
 refine plain_mkB Tryz.func66 27 (con := []) trivial (fun hA hr hv => ?_) (by kernel_rfl) (by kernel_rfl) Tryz.ntmps66
 unfold klfits at hr; split at hr
 ·rename_i l p i
  have := ret_ok hr; subst this
  replace hv := hv _ rfl
  refine ⟨_, [], rfl, rfl, .of (arglfits l p i) (by simp), rfl, (fun W R ρ0 own0 hown => noSums (by kernel_rfl)), .of (runlfits gl l p i.val) ?_⟩
  delta RQ
  clear hr
  generalize i.val = i at *
  obtain ⟨v1, v2, v3, v4, v5, v6⟩ := hv
  have w1 := fits_w p (itG l i.toNat).toNat i.toNat v6
  have b1 : 0 ≤ itG l i.toNat ∧ itG l i.toNat < (p.length : Int) := ⟨v4, by omega⟩
  have e : (decide (-128 ≤ IntKind.i64.wrap (p.getD (itG l i.toNat).toNat 0 - p.getD i.toNat 0)) && decide (IntKind.i64.wrap (p.getD (itG l i.toNat).toNat 0 - p.getD i.toNat 0) ≤ 127)) = fitsB l p i := by rw [w1]; rfl
  exact ⟨⟨v1, v2⟩, fun _ => ⟨b1, fun _ => ⟨⟨v1, by omega⟩, fun _ => e⟩⟩⟩
 ·cases hr
def badZ (l : List itT.ty) (i : Nat) : Bool := decide (itS l i < 0) || decide (2048 < itS l i)
def badT (l : List itT.ty) (i : Nat) : Bool := itB l i && (decide (itG l i < 0) || decide ((l.length : Int) < itG l i))
def kDo1 : List SVal → Nat → Acc ORes := fun a n => match a with | [.agg [.int .i64 s, .int .i64 t, .bool b]] => .ret ({ v := .bool (.sym (decide (s.val < 0) || decide (2048 < s.val))) }) | _ => .fail "Do1"
theorem argDo1 (s t : SI) (b : SB) : (all (subL tAtN none' [] deep [.agg [.int .i64 s, .int .i64 t, .bool b]] [.agg [.int .i64 (.full s.val), .int .i64 (.full t.val), .bool (.sym b.val)]])) = (
 SI.val s = SI.val s ∧ SI.val t = SI.val t ∧ SB.val b = SB.val b) := by kernel_rfl
theorem runDo1 (gl : List (Nat × SVal)) (s : Int) (t : Int) (b : Bool) : (Tr.sat (plainQ (.bool (.sym (decide (s < 0) || decide (2048 < s))))) (run (env gl []) [] (bodyOf Tryz.f65) (start [.agg [.int .i64 (.full s), .int .i64 (.full t), .bool (.sym b)]] 11) (ends (env gl []) Tryz.f65.results.toList))) = (
 (decide (s < (0 : Int)) || decide ((2048 : Int) < s)) = (decide (s < (0 : Int)) || decide ((2048 : Int) < s))) := by kernel_rfl
set_option maxHeartbeats 4000000 in
theorem cDo1 : Con ea has gl 65 kDo1 := by
 refine plain_mkB Tryz.func65 11 (con := []) trivial (fun hA hr hv => ?_) (by kernel_rfl) (by kernel_rfl) Tryz.ntmps65
 unfold kDo1 at hr; split at hr
 ·rename_i s t b
  have := ret_ok hr; subst this
  refine ⟨_, [], rfl, rfl, .of (argDo1 s t b) (by simp), rfl, (fun W R ρ0 own0 hown => noSums (by kernel_rfl)), .of (runDo1 gl s.val t.val b.val) ?_⟩
  clear hr
  rfl
 ·cases hr
def kmay1 : List SVal → Nat → Acc ORes := fun a n => match a with | [.agg [.int .i64 s, .int .i64 t, .bool b], .rop [.ro (.flat (.int .i64) [.int .i64, .bool]) l]] => .ret ({ v := .bool (.sym (b.val && (decide (t.val < 0) || decide ((l.length : Int) < t.val)))) }) | _ => .fail "may1"
theorem argmay1 (s t : SI) (b : SB) (l : List itT.ty) : (all (subL tAtN none' [] deep [.agg [.int .i64 s, .int .i64 t, .bool b], .rop [.ro (.flat (.int .i64) [.int .i64, .bool]) l]] [.agg [.int .i64 (.full s.val), .int .i64 (.full t.val), .bool (.sym b.val)], .rop [.ro itT l]])) = (
 SI.val s = SI.val s ∧ SI.val t = SI.val t ∧ SB.val b = SB.val b ∧ l = l) := by kernel_rfl
theorem runmay1 (gl : List (Nat × SVal)) (s : Int) (t : Int) (b : Bool) (l : List itT.ty) : (Tr.sat (plainQ (.bool (.sym (b && (decide (t < 0) || decide ((l.length : Int) < t)))))) (run (env gl []) [] (bodyOf Tryz.f84) (start [.agg [.int .i64 (.full s), .int .i64 (.full t), .bool (.sym b)], .rop [.ro itT l]] 18) (ends (env gl []) Tryz.f84.results.toList))) = (
 (b && (decide (t < (0 : Int)) || decide ((↑(List.length l) : Int) < t))) = (b && (decide (t < (0 : Int)) || decide ((↑(List.length l) : Int) < t)))) := by kernel_rfl
set_option maxHeartbeats 4000000 in
theorem cmay1 : Con ea has gl 84 kmay1 := by
 refine plain_mkB Tryz.func84 18 (con := []) trivial (fun hA hr hv => ?_) (by kernel_rfl) (by kernel_rfl) Tryz.ntmps84
 unfold kmay1 at hr; split at hr
 ·rename_i s t b l
  have := ret_ok hr; subst this
  refine ⟨_, [], rfl, rfl, .of (argmay1 s t b l) (by simp), rfl, (fun W R ρ0 own0 hown => noSums (by kernel_rfl)), .of (runmay1 gl s.val t.val b.val l) ?_⟩
  clear hr
  rfl
 ·cases hr
def fndI (p : Nat → Bool) (n : Nat) : Int := if idxM p n = n then -1 else idxM p n
def HIdxZ (l : List itT.ty) (i : Nat) : SState := { fr := [(0, .ro itT l), (1, .func 65 []), (7, .int .i64 (.full l.length)), (8, .int .i64 (.sym i 0 1000000))], hp := [], next := 0, sz := 19 }
def XIdxZ (l : List itT.ty) : SState := { fr := [], hp := [], next := 0, sz := 19 }
def YIdxZ (l : List itT.ty) : SState := { fr := [(4, .int .i64 (.full (idxM (badZ l) l.length)))], hp := [], next := 0, sz := 19 }
def LIdxZ (l : List itT.ty) : LSum := ⟨HIdxZ l 0, fun k => .ite (decide (idxM (badZ l) l.length = l.length)) (k (.exit 0) (XIdxZ l)) (k .ret (YIdxZ l)), l.length ≤ 1000000⟩
theorem bIdxZ (gl : List (Nat × SVal)) (l : List itT.ty) (i : Nat) : (Tr.sat (rnd2 (env gl [(65, kDo1)]) (fun i => idxM (badZ l) i = i) (l.length) (HIdxZ l) 0 (decide (idxM (badZ l) l.length = l.length)) (XIdxZ l) (YIdxZ l) i) (run (env gl [(65, kDo1)]) [] (loopN (bodyOf Tryz.f85) 0) (HIdxZ l i) .leaf)) = (
 IT (decide ((↑i : Int) < (↑(List.length l) : Int))) (RQ (0 ≤ (↑i : Int) ∧ (↑i : Int) < (↑(List.length l) : Int)) (IT (decide ((List.getD l (Int.toNat (↑i : Int)) (RT.dflt (RT.flat (FK.int IntKind.i64) [FK.int IntKind.i64, FK.bool]))).fst < 0) || decide ((2048 : Int) < (List.getD l (Int.toNat (↑i : Int)) (RT.dflt (RT.flat (FK.int IntKind.i64) [FK.int IntKind.i64, FK.bool]))).fst)) (decide (idxM (badZ l) (List.length l) = List.length l) = false ∧ (↑i : Int) = (↑(idxM (badZ l) (List.length l)) : Int)) (i < List.length l ∧ idxM (badZ l) (i + 1) = i + 1 ∧ l = l ∧ (↑(List.length l) : Int) = (↑(List.length l) : Int) ∧ (↑i : Int) + 1 = (↑(i + 1) : Int) ∧ 0 ≤ (↑(i + 1) : Int) ∧ (↑(i + 1) : Int) ≤ 1000000))) (Nat.beq (0 : Nat) (0 : Nat) = true ∧ decide (idxM (badZ l) (List.length l) = List.length l) = true ∧ True)) := by kernel_rfl
set_option maxHeartbeats 4000000 in
theorem lIdxZ (l : List itT.ty) {W : World} {R own0 : Nat → Prop} {ρ0 : Nat → Option Value} (hown : HownOk (env gl [(65, kDo1)]) own0 ρ0) : LOk Tryz.prog (env gl [(65, kDo1)]) (ctx ea has) gl W R own0 ρ0 (loopN (bodyOf Tryz.f85) 0) (LIdxZ l) := by
 refine loop2_ok (J := fun i => idxM (badZ l) i = i) (N := l.length) (H := HIdxZ l) (X := XIdxZ l) (Y := YIdxZ l) (env_ok (con := [(65, kDo1)]) ⟨cDo1, trivial⟩) hown (ls := fun i => []) (fun i => noSums (by kernel_rfl)) (fun hm i hi hj => ?_) 0 (fun hm => by first | exact Nat.zero_le _ | omega) (fun hm => rfl)
 rw [bIdxZ gl l i]
 delta RQ IT
 simp only [Int.toNat_natCast]
 refine ⟨fun h => ?_, fun h => ?_⟩
 ·have h := of_decide_eq_true h
  have hlt : i < l.length := by omega
  refine ⟨by omega, fun _ => ⟨fun h3 => ?_, fun h3 => ?_⟩⟩
  ·have e := idxM_hit (n := l.length) hj (show badZ l i = true from h3) hlt
   rw [e]
   exact ⟨by simp; omega, rfl⟩
  ·exact ⟨hlt, idxM_step hj h3, trivial, trivial, by omega, by omega, by omega⟩
 ·have h := of_decide_eq_false h
  have : i = l.length := by omega
  exact ⟨rfl, by rw [← this]; simp [hj], trivial⟩
def kIndexZ : List SVal → Nat → Acc ORes := fun a n => match a with | [.ro (.flat (.int .i64) [.int .i64, .bool]) l, .func 65 []] => .ret ({ v := .int .i64 (.full (fndI (badZ l) l.length)), vc := some (l.length ≤ 1000000) }) | _ => .fail "IndexZ"
theorem argIndexZ (l : List itT.ty) : (all (subL tAtN none' [] deep [.ro (.flat (.int .i64) [.int .i64, .bool]) l, .func 65 []] [.ro itT l, .func 65 []])) = (
 l = l) := by kernel_rfl
theorem runIndexZ (gl : List (Nat × SVal)) (l : List itT.ty) : (Tr.sat (plainQ (.int .i64 (.full (fndI (badZ l) l.length)))) (run (env gl [(65, kDo1)]) [(2, LIdxZ l)] (bodyOf Tryz.f85) (start [.ro itT l, .func 65 []] 19) (ends (env gl [(65, kDo1)]) Tryz.f85.results.toList))) = (
 RQ (List.length l ≤ 1000000 ∧ l = l ∧ (↑(List.length l) : Int) = (↑(List.length l) : Int) ∧ (0 : Int) = (↑(0 : Nat) : Int)) (IT (decide (idxM (badZ l) (List.length l) = List.length l)) ((-1 : Int) = fndI (badZ l) (List.length l)) ((↑(idxM (badZ l) (List.length l)) : Int) = fndI (badZ l) (List.length l)))) := by kernel_rfl
set_option maxHeartbeats 4000000 in
theorem cIndexZ : Con ea has gl 85 kIndexZ := by
 refine plain_mkB Tryz.func85 19 (con := [(65, kDo1)]) ⟨cDo1, trivial⟩ (fun hA hr hv => ?_) (by kernel_rfl) (by kernel_rfl) Tryz.ntmps85
 unfold kIndexZ at hr; split at hr
 ·rename_i l
  have := ret_ok hr; subst this
  replace hv := hv _ rfl
  refine ⟨_, [(2, LIdxZ l)], rfl, rfl, .of (argIndexZ l) (by simp), rfl, (fun W R ρ0 own0 hown => hl1 (by kernel_rfl) (by kernel_rfl) (lIdxZ l hown)), .of (runIndexZ gl l) ?_⟩
  delta RQ IT
  clear hr
  refine ⟨⟨hv, rfl, rfl, rfl⟩, fun _ => ⟨fun h => ?_, fun h => ?_⟩⟩
  ·have h := of_decide_eq_true h
   unfold fndI; rw [if_pos h]
  ·have h := of_decide_eq_false h
   unfold fndI; rw [if_neg h]
 ·cases hr
def kContZ : List SVal → Nat → Acc ORes := fun a n => match a with | [.ro (.flat (.int .i64) [.int .i64, .bool]) l, .func 65 []] => .ret ({ v := .bool (.sym (decide (0 ≤ fndI (badZ l) l.length))), vc := some (l.length ≤ 1000000) }) | _ => .fail "ContZ"
theorem argContZ (l : List itT.ty) : (all (subL tAtN none' [] deep [.ro (.flat (.int .i64) [.int .i64, .bool]) l, .func 65 []] [.ro itT l, .func 65 []])) = (
 l = l) := by kernel_rfl
theorem runContZ (gl : List (Nat × SVal)) (l : List itT.ty) : (Tr.sat (plainQ (.bool (.sym (decide (0 ≤ fndI (badZ l) l.length))))) (run (env gl [(85, kIndexZ)]) [] (bodyOf Tryz.f64) (start [.ro itT l, .func 65 []] 9) (ends (env gl [(85, kIndexZ)]) Tryz.f64.results.toList))) = (
 RQ (List.length l ≤ 1000000) (decide (0 ≤ fndI (badZ l) (List.length l)) = decide (0 ≤ fndI (badZ l) (List.length l)))) := by kernel_rfl
set_option maxHeartbeats 4000000 in
theorem cContZ : Con ea has gl 64 kContZ := by
 refine plain_mkB Tryz.func64 9 (con := [(85, kIndexZ)]) ⟨cIndexZ, trivial⟩ (fun hA hr hv => ?_) (by kernel_rfl) (by kernel_rfl) Tryz.ntmps64
 unfold kContZ at hr; split at hr
 ·rename_i l
  have := ret_ok hr; subst this
  replace hv := hv _ rfl
  refine ⟨_, [], rfl, rfl, .of (argContZ l) (by simp), rfl, (fun W R ρ0 own0 hown => noSums (by kernel_rfl)), .of (runContZ gl l) ?_⟩
  delta RQ
  clear hr
  exact ⟨hv, fun _ => rfl⟩
 ·cases hr
def HIdxT (l : List itT.ty) (l' : List itT.ty) (i : Nat) : SState := { fr := [(0, .ro itT l), (1, .func 84 [.rop [.ro itT l']]), (7, .int .i64 (.full l.length)), (8, .int .i64 (.sym i 0 1000000))], hp := [], next := 0, sz := 19 }
def XIdxT (l : List itT.ty) (l' : List itT.ty) : SState := { fr := [], hp := [], next := 0, sz := 19 }
def YIdxT (l : List itT.ty) (l' : List itT.ty) : SState := { fr := [(4, .int .i64 (.full (idxM (badT l) l.length)))], hp := [], next := 0, sz := 19 }
def LIdxT (l : List itT.ty) (l' : List itT.ty) : LSum := ⟨HIdxT l l' 0, fun k => .ite (decide (idxM (badT l) l.length = l.length)) (k (.exit 0) (XIdxT l l')) (k .ret (YIdxT l l')), l.length ≤ 1000000 ∧ l' = l⟩
theorem bIdxT (gl : List (Nat × SVal)) (l : List itT.ty) (l' : List itT.ty) (i : Nat) : (Tr.sat (rnd2 (env gl [(84, kmay1)]) (fun i => idxM (badT l) i = i) (l.length) (HIdxT l l') 0 (decide (idxM (badT l) l.length = l.length)) (XIdxT l l') (YIdxT l l') i) (run (env gl [(84, kmay1)]) [] (loopN (bodyOf Tryz.f85) 0) (HIdxT l l' i) .leaf)) = (
 IT (decide ((↑i : Int) < (↑(List.length l) : Int))) (RQ (0 ≤ (↑i : Int) ∧ (↑i : Int) < (↑(List.length l) : Int)) (IT ((List.getD l (Int.toNat (↑i : Int)) (RT.dflt (RT.flat (FK.int IntKind.i64) [FK.int IntKind.i64, FK.bool]))).snd.snd && (decide ((List.getD l (Int.toNat (↑i : Int)) (RT.dflt (RT.flat (FK.int IntKind.i64) [FK.int IntKind.i64, FK.bool]))).snd.fst < 0) || decide ((↑(List.length l') : Int) < (List.getD l (Int.toNat (↑i : Int)) (RT.dflt (RT.flat (FK.int IntKind.i64) [FK.int IntKind.i64, FK.bool]))).snd.fst))) (decide (idxM (badT l) (List.length l) = List.length l) = false ∧ (↑i : Int) = (↑(idxM (badT l) (List.length l)) : Int)) (i < List.length l ∧ idxM (badT l) (i + 1) = i + 1 ∧ l = l ∧ l' = l' ∧ (↑(List.length l) : Int) = (↑(List.length l) : Int) ∧ (↑i : Int) + 1 = (↑(i + 1) : Int) ∧ 0 ≤ (↑(i + 1) : Int) ∧ (↑(i + 1) : Int) ≤ 1000000))) (Nat.beq (0 : Nat) (0 : Nat) = true ∧ decide (idxM (badT l) (List.length l) = List.length l) = true ∧ True)) := by kernel_rfl
set_option maxHeartbeats 4000000 in
theorem lIdxT (l : List itT.ty) (l' : List itT.ty) {W : World} {R own0 : Nat → Prop} {ρ0 : Nat → Option Value} (hown : HownOk (env gl [(84, kmay1)]) own0 ρ0) : LOk Tryz.prog (env gl [(84, kmay1)]) (ctx ea has) gl W R own0 ρ0 (loopN (bodyOf Tryz.f85) 0) (LIdxT l l') := by
 refine loop2_ok (J := fun i => idxM (badT l) i = i) (N := l.length) (H := HIdxT l l') (X := XIdxT l l') (Y := YIdxT l l') (env_ok (con := [(84, kmay1)]) ⟨cmay1, trivial⟩) hown (ls := fun i => []) (fun i => noSums (by kernel_rfl)) (fun hm i hi hj => ?_) 0 (fun hm => by first | exact Nat.zero_le _ | omega) (fun hm => rfl)
 rw [bIdxT gl l l' i]
 delta RQ IT
 have e := hm.2.symm; replace hm := hm.1; subst e
 simp only [Int.toNat_natCast]
 refine ⟨fun h => ?_, fun h => ?_⟩
 ·have h := of_decide_eq_true h
  have hlt : i < l.length := by omega
  refine ⟨by omega, fun _ => ⟨fun h3 => ?_, fun h3 => ?_⟩⟩
  ·have e := idxM_hit (n := l.length) hj (show badT l i = true from h3) hlt
   rw [e]
   exact ⟨by simp; omega, rfl⟩
  ·exact ⟨hlt, idxM_step hj h3, trivial, trivial, trivial, by omega, by omega, by omega⟩
 ·have h := of_decide_eq_false h
  have : i = l.length := by omega
  exact ⟨rfl, by rw [← this]; simp [hj], trivial⟩
def kIndexT : List SVal → Nat → Acc ORes := fun a n => match a with | [.ro (.flat (.int .i64) [.int .i64, .bool]) l, .func 84 [.rop [.ro (.flat (.int .i64) [.int .i64, .bool]) l']]] => .ret ({ v := .int .i64 (.full (fndI (badT l) l.length)), vc := some (l.length ≤ 1000000 ∧ l' = l) }) | _ => .fail "IndexT"
theorem argIndexT (l : List itT.ty) (l' : List itT.ty) : (all (subL tAtN none' [] deep [.ro (.flat (.int .i64) [.int .i64, .bool]) l, .func 84 [.rop [.ro (.flat (.int .i64) [.int .i64, .bool]) l']]] [.ro itT l, .func 84 [.rop [.ro itT l']]])) = (
 l = l ∧ l' = l') := by kernel_rfl
theorem runIndexT (gl : List (Nat × SVal)) (l : List itT.ty) (l' : List itT.ty) : (Tr.sat (plainQ (.int .i64 (.full (fndI (badT l) l.length)))) (run (env gl [(84, kmay1)]) [(2, LIdxT l l')] (bodyOf Tryz.f85) (start [.ro itT l, .func 84 [.rop [.ro itT l']]] 19) (ends (env gl [(84, kmay1)]) Tryz.f85.results.toList))) = (
 RQ ((List.length l ≤ 1000000 ∧ l' = l) ∧ l = l ∧ l' = l' ∧ (↑(List.length l) : Int) = (↑(List.length l) : Int) ∧ (0 : Int) = (↑(0 : Nat) : Int)) (IT (decide (idxM (badT l) (List.length l) = List.length l)) ((-1 : Int) = fndI (badT l) (List.length l)) ((↑(idxM (badT l) (List.length l)) : Int) = fndI (badT l) (List.length l)))) := by kernel_rfl
set_option maxHeartbeats 4000000 in
theorem cIndexT : Con ea has gl 85 kIndexT := by
 refine plain_mkB Tryz.func85 19 (con := [(84, kmay1)]) ⟨cmay1, trivial⟩ (fun hA hr hv => ?_) (by kernel_rfl) (by kernel_rfl) Tryz.ntmps85
 unfold kIndexT at hr; split at hr
 ·rename_i l l'
  have := ret_ok hr; subst this
  replace hv := hv _ rfl
  refine ⟨_, [(2, LIdxT l l')], rfl, rfl, .of (argIndexT l l') (by simp), rfl, (fun W R ρ0 own0 hown => hl1 (by kernel_rfl) (by kernel_rfl) (lIdxT l l' hown)), .of (runIndexT gl l l') ?_⟩
  delta RQ IT
  clear hr
  refine ⟨⟨hv, rfl, rfl, rfl, rfl⟩, fun _ => ⟨fun h => ?_, fun h => ?_⟩⟩
  ·have h := of_decide_eq_true h
   unfold fndI; rw [if_pos h]
  ·have h := of_decide_eq_false h
   unfold fndI; rw [if_neg h]
 ·cases hr
def kContT : List SVal → Nat → Acc ORes := fun a n => match a with | [.ro (.flat (.int .i64) [.int .i64, .bool]) l, .func 84 [.rop [.ro (.flat (.int .i64) [.int .i64, .bool]) l']]] => .ret ({ v := .bool (.sym (decide (0 ≤ fndI (badT l) l.length))), vc := some (l.length ≤ 1000000 ∧ l' = l) }) | _ => .fail "ContT"
theorem argContT (l : List itT.ty) (l' : List itT.ty) : (all (subL tAtN none' [] deep [.ro (.flat (.int .i64) [.int .i64, .bool]) l, .func 84 [.rop [.ro (.flat (.int .i64) [.int .i64, .bool]) l']]] [.ro itT l, .func 84 [.rop [.ro itT l']]])) = (
 l = l ∧ l' = l') := by kernel_rfl
theorem runContT (gl : List (Nat × SVal)) (l : List itT.ty) (l' : List itT.ty) : (Tr.sat (plainQ (.bool (.sym (decide (0 ≤ fndI (badT l) l.length))))) (run (env gl [(85, kIndexT)]) [] (bodyOf Tryz.f64) (start [.ro itT l, .func 84 [.rop [.ro itT l']]] 9) (ends (env gl [(85, kIndexT)]) Tryz.f64.results.toList))) = (
 RQ (List.length l ≤ 1000000 ∧ l' = l) (decide (0 ≤ fndI (badT l) (List.length l)) = decide (0 ≤ fndI (badT l) (List.length l)))) := by kernel_rfl
set_option maxHeartbeats 4000000 in
theorem cContT : Con ea has gl 64 kContT := by
 refine plain_mkB Tryz.func64 9 (con := [(85, kIndexT)]) ⟨cIndexT, trivial⟩ (fun hA hr hv => ?_) (by kernel_rfl) (by kernel_rfl) Tryz.ntmps64
 unfold kContT at hr; split at hr
 ·rename_i l l'
  have := ret_ok hr; subst this
  replace hv := hv _ rfl
  refine ⟨_, [], rfl, rfl, .of (argContT l l') (by simp), rfl, (fun W R ρ0 own0 hown => noSums (by kernel_rfl)), .of (runContT gl l l') ?_⟩
  delta RQ
  clear hr
  exact ⟨hv, fun _ => rfl⟩
 ·cases hr
def kmay : List SVal → Nat → Acc ORes := fun a n => match a with | [.ro (.flat (.int .i64) [.int .i64, .bool]) l] => .ret ({ v := .bool (.sym (!decide (0 ≤ fndI (badT l) l.length))), vc := some (l.length ≤ 1000000) }) | _ => .fail "may"
theorem argmay (l : List itT.ty) : (all (subL tAtN none' [] deep [.ro (.flat (.int .i64) [.int .i64, .bool]) l] [.ro itT l])) = (
 l = l) := by kernel_rfl
theorem runmay (gl : List (Nat × SVal)) (l : List itT.ty) : (Tr.sat (plainQ (.bool (.sym (!decide (0 ≤ fndI (badT l) l.length))))) (run (env gl [(64, kContT)]) [(1000000, cutL { fr := [(0, .ro itT l), (1, .rop [.ro itT l])], hp := [], next := 0, sz := 7 })] (bodyOf Tryz.f63) (start [.ro itT l] 7) (ends (env gl [(64, kContT)]) Tryz.f63.results.toList))) = (
 RQ (l = l ∧ l = l) (RQ (List.length l ≤ 1000000 ∧ l = l) ((!decide (0 ≤ fndI (badT l) (List.length l))) = !decide (0 ≤ fndI (badT l) (List.length l))))) := by kernel_rfl
set_option maxHeartbeats 4000000 in
theorem cmay : Con ea has gl 63 kmay := by
 refine plain_mkB Tryz.func63 7 (con := [(64, kContT)]) ⟨cContT, trivial⟩ (fun hA hr hv => ?_) (by kernel_rfl) (by kernel_rfl) Tryz.ntmps63
 unfold kmay at hr; split at hr
 ·rename_i l
  have := ret_ok hr; subst this
  replace hv := hv _ rfl
  refine ⟨_, [(1000000, cutL { fr := [(0, .ro itT l), (1, .rop [.ro itT l])], hp := [], next := 0, sz := 7 })], rfl, rfl, .of (argmay l) (by simp), rfl, (fun W R ρ0 own0 hown => noSums (by kernel_rfl)), .of (runmay gl l) ?_⟩
  delta RQ
  clear hr
  exact ⟨⟨rfl, rfl⟩, fun _ => ⟨⟨hv, rfl⟩, fun _ => rfl⟩⟩
 ·cases hr
end
end Go.Proofs.YtacmmedhjebfjaaGreatDoor
set_option linter.unusedVariables false
set_option linter.unusedSimpArgs false
namespace Go.Proofs.YtacmmedhjebfjaaGreatDoor
open Go.RowKit Go.Sy
def goesL (l : List itT.ty) (g : List Bool) (i : Nat) : Bool := (itB l i && !g.getD i false) && !fitsB l (plA l g) i
def rndU (l : List itT.ty) (g : List Bool) : Nat → List Bool
 | 0 => g
 | i + 1 => if goesL l g i = true then (rndU l g i).set i true else rndU l g i
def moreU (l : List itT.ty) (g : List Bool) : Nat → Bool
 | 0 => false
 | i + 1 => if goesL l g i = true then true else moreU l g i
theorem rndU_len (l : List itT.ty) (g : List Bool) : ∀ i, (rndU l g i).length = g.length
 | 0 => rfl
 | i + 1 => by unfold rndU; split <;> simp [rndU_len l g i]
theorem rndU_get (l : List itT.ty) (g : List Bool) (j : Nat) : ∀ i, i ≤ j → (rndU l g i).getD j false = g.getD j false
 | 0, _ => rfl
 | i + 1, h => by
  have := rndU_get l g j i (by omega)
  unfold rndU; split
  ·rw [← this, List.getD_eq_getElem?_getD, List.getElem?_set_ne (by omega), List.getD_eq_getElem?_getD]
  ·exact this
theorem rndU_at (l : List itT.ty) (g : List Bool) (hg : g.length = l.length) (j : Nat) (hj : j < l.length) : ∀ i, j < i → (rndU l g i).getD j false = (g.getD j false || goesL l g j)
 | 0, h => by omega
 | i + 1, h => by
  by_cases e : i = j
  ·subst e
   have h1 := rndU_get l g i i (Nat.le_refl _)
   unfold rndU
   by_cases hgo : goesL l g i = true
   ·rw [if_pos hgo, hgo, List.getD_eq_getElem?_getD, List.getElem?_set_self (by rw [rndU_len]; omega)]; simp
   ·rw [if_neg hgo, h1]; simp [hgo]
  ·have := rndU_at l g hg j hj i (by omega)
   unfold rndU; split
   ·rw [← this, List.getD_eq_getElem?_getD, List.getElem?_set_ne e, List.getD_eq_getElem?_getD]
   ·exact this
theorem moreU_no (l : List itT.ty) (g : List Bool) : ∀ i, moreU l g i = false → (∀ j, j < i → goesL l g j = false) ∧ rndU l g i = g
 | 0, _ => ⟨fun j hj => by omega, rfl⟩
 | i + 1, h => by
  unfold moreU at h
  split at h
  ·cases h
  ·rename_i hn
   obtain ⟨h1, h2⟩ := moreU_no l g i h
   refine ⟨fun j hj => ?_, by unfold rndU; rw [if_neg hn]; exact h2⟩
   by_cases e : j = i
   ·subst e; simpa using hn
   ·exact h1 j (by omega)
def cntL (g : List Bool) : Nat := g.countP id
theorem cnt_set : ∀ (g : List Bool) (i : Nat), i < g.length → g.getD i false = false → cntL (g.set i true) = cntL g + 1
 | [], i, h, _ => by simp at h
 | b :: g, 0, h, hb => by simp at hb; subst hb; simp [cntL]
 | b :: g, i + 1, h, hb => by
  have := cnt_set g i (by simpa using h) (by simpa using hb)
  unfold cntL at this ⊢
  simp only [List.set_cons_succ, List.countP_cons, this]; omega
theorem cnt_rnd (l : List itT.ty) (g : List Bool) (hg : g.length = l.length) : ∀ i, i ≤ l.length → cntL g + (if moreU l g i = true then 1 else 0) ≤ cntL (rndU l g i)
 | 0, _ => by simp [moreU, rndU]
 | i + 1, h => by
  have ih := cnt_rnd l g hg i (by omega)
  unfold moreU rndU
  by_cases hgo : goesL l g i = true
  ·rw [if_pos hgo, if_pos hgo]
   have h1 := rndU_get l g i i (Nat.le_refl _)
   have h2 : g.getD i false = false := by unfold goesL at hgo; simp only [Bool.and_eq_true, Bool.not_eq_true'] at hgo; exact hgo.1.2
   rw [cnt_set _ i (by rw [rndU_len]; omega) (by rw [h1, h2])]
   simp; omega
  ·rw [if_neg hgo, if_neg hgo]; exact ih
def rlxN (l : List itT.ty) : Nat → List Bool
 | 0 => List.replicate l.length false
 | k + 1 => rndU l (rlxN l k) l.length
def rlx (l : List itT.ty) : List Bool := rlxN l (l.length + 1)
theorem rlxN_len (l : List itT.ty) : ∀ k, (rlxN l k).length = l.length
 | 0 => by simp [rlxN]
 | k + 1 => by rw [rlxN, rndU_len, rlxN_len l k]
def chg (l : List itT.ty) (k : Nat) : Prop := ∀ j, j < k → moreU l (rlxN l j) l.length = true
theorem chg_cnt (l : List itT.ty) : ∀ k, chg l k → k ≤ cntL (rlxN l k)
 | 0, _ => Nat.zero_le _
 | k + 1, h => by
  have h1 := chg_cnt l k fun j hj => h j (by omega)
  have h2 := cnt_rnd l (rlxN l k) (rlxN_len l k) l.length (Nat.le_refl _)
  rw [h k (Nat.lt_succ_self _)] at h2
  simp only [if_true] at h2
  rw [rlxN]; omega
theorem chg_le (l : List itT.ty) {k : Nat} (h : chg l k) : k ≤ l.length := by
 have h1 := chg_cnt l k h
 have h2 : cntL (rlxN l k) ≤ (rlxN l k).length := List.countP_le_length
 rw [rlxN_len] at h2; omega
theorem rlx_stay (l : List itT.ty) {k : Nat} (h : moreU l (rlxN l k) l.length = false) : ∀ m, k ≤ m → rlxN l m = rlxN l k
 | 0, hm => by have : k = 0 := by omega
               subst this; rfl
 | m + 1, hm => by
  by_cases e : k = m + 1
  ·subst e; rfl
  ·have := rlx_stay l h m (by omega)
   rw [rlxN, this]
   exact (moreU_no l _ _ h).2
theorem rlx_end (l : List itT.ty) {k : Nat} (hk : k ≤ l.length) (h : moreU l (rlxN l k) l.length = false) : rlxN l (k + 1) = rlx l := by
 rw [rlx_stay l h (k + 1) (by omega), rlx, rlx_stay l h (l.length + 1) (by omega)]
theorem rlx_len (l : List itT.ty) : (rlx l).length = l.length := rlxN_len l _
def TgOk (l : List itT.ty) : Prop := ∀ i, itB l i = true → 0 ≤ itG l i ∧ itG l i ≤ l.length
theorem plL_bd {l : List itT.ty} (h : ItOk l) (g : List Bool) : ∀ n, n ≤ 4097 → ∀ j, 0 ≤ (plL l g n).getD j 0 ∧ (plL l g n).getD j 0 ≤ 100000000
 | n, hn, j => by
  by_cases e : j < n
  ·rw [plL_get l g n j e]
   have := plS_le h g j
   omega
  ·have e : (plL l g n).getD j 0 = 0 := by rw [List.getD_eq_getElem?_getD, List.getElem?_eq_none (by rw [plL_len]; omega)]; rfl
   rw [e]; omega
theorem plA_le {l : List itT.ty} (h : ItOk l) (g : List Bool) : ∀ j, 0 ≤ (plA l g).getD j 0 ∧ (plA l g).getD j 0 ≤ 100000000 := plL_bd h g _ (by have := h.1; omega)
theorem fnd_none {p : Nat → Bool} {n : Nat} (h : ∀ i, i < n → p i = false) : fndI p n = -1 := by
 have : ∀ k, k ≤ n → idxM p k = k := fun k => by
  induction k with
  | zero => intro _; rfl
  | succ k ih => intro hk; exact idxM_step (ih (by omega)) (h k (by omega))
 unfold fndI; rw [if_pos (this n (Nat.le_refl _))]
section
variable {ea : Ear} {has : Int → Prop} {gl : List (Nat × SVal)}
def HRlI (l : List itT.ty) (g : List Bool) (rr : Nat) (i : Nat) : SState := { fr := [(0, .ro itT l), (5, .own 0), (6, .int .i64 (.sym rr 0 1000000)), (7, .ro .i64 (plA l g)), (8, .bool (.sym (moreU l g i))), (31, .ro itT l), (32, .int .i64 (.full l.length)), (33, .int .i64 (.sym i 0 1000000))], hp := [(0, some (.recs .bool (rndU l g i)))], next := 1, sz := 62 }
def XRlI (l : List itT.ty) (g : List Bool) (rr : Nat) : SState := { fr := [(0, .ro itT l), (5, .own 0), (6, .int .i64 (.sym rr 0 1000000)), (8, .bool (.sym (moreU l g l.length)))], hp := [(0, some (.recs .bool (rndU l g l.length)))], next := 1, sz := 62 }
def LRlI (l : List itT.ty) (g : List Bool) (rr : Nat) : LSum := ⟨HRlI l g rr 0, fun k => k (.exit 2) (XRlI l g rr), ItOk l ∧ TgOk l ∧ g.length = l.length ∧ rr ≤ 1000000⟩
theorem bRlI (gl : List (Nat × SVal)) (l : List itT.ty) (g : List Bool) (rr : Nat) (i : Nat) : (Tr.sat (rnd1 (env gl [(66, klfits), (47, kPlacesB), (63, kmay), (64, kContZ)]) (fun _ => True) (l.length) (HRlI l g rr) 2 (XRlI l g rr) i) (run (env gl [(66, klfits), (47, kPlacesB), (63, kmay), (64, kContZ)]) [] (loopN (loopN (bodyOf Tryz.f46) 0) 0) (HRlI l g rr i) .leaf)) = (
 IT (decide ((↑i : Int) < (↑(List.length l) : Int))) (RQ (0 ≤ (↑i : Int) ∧ (↑i : Int) < (↑(List.length l) : Int)) (RQ ((List.getD l (Int.toNat (↑i : Int)) (RT.dflt (RT.flat (FK.int IntKind.i64) [FK.int IntKind.i64, FK.bool]))).snd.snd = true → 0 ≤ (↑i : Int) ∧ (↑i : Int) < (↑(List.length (rndU l g i)) : Int)) (RQ (((List.getD l (Int.toNat (↑i : Int)) (RT.dflt (RT.flat (FK.int IntKind.i64) [FK.int IntKind.i64, FK.bool]))).snd.snd && !List.getD (rndU l g i) (Int.toNat (↑i : Int)) (RT.dflt RT.bool)) = true → 0 ≤ (↑i : Int) ∧ (↑i : Int) < (↑(List.length l) : Int) ∧ List.length (plA l g) = List.length l + 1 ∧ 0 ≤ itG l (Int.toNat (↑i : Int)) ∧ itG l (Int.toNat (↑i : Int)) ≤ (↑(List.length l) : Int) ∧ ∀ (j : Nat), (0 : RT.ty RT.i64) ≤ List.getD (plA l g) j (0 : RT.ty RT.i64) ∧ List.getD (plA l g) j (0 : RT.ty RT.i64) ≤ (100000000 : RT.ty RT.i64)) (IT ((List.getD l (Int.toNat (↑i : Int)) (RT.dflt (RT.flat (FK.int IntKind.i64) [FK.int IntKind.i64, FK.bool]))).snd.snd && !List.getD (rndU l g i) (Int.toNat (↑i : Int)) (RT.dflt RT.bool) && !fitsB l (plA l g) (↑i : Int)) (RQ (0 ≤ (↑i : Int) ∧ (↑i : Int) < (↑(List.length (rndU l g i)) : Int)) (i < List.length l ∧ True ∧ l = l ∧ (↑rr : Int) = (↑rr : Int) ∧ plA l g = plA l g ∧ true = moreU l g (i + 1) ∧ l = l ∧ (↑(List.length l) : Int) = (↑(List.length l) : Int) ∧ (↑i : Int) + 1 = (↑(i + 1) : Int) ∧ (0 ≤ (↑(i + 1) : Int) ∧ (↑(i + 1) : Int) ≤ 1000000) ∧ List.set (rndU l g i) (Int.toNat (↑i : Int)) true = rndU l g (i + 1))) (i < List.length l ∧ True ∧ l = l ∧ (↑rr : Int) = (↑rr : Int) ∧ plA l g = plA l g ∧ moreU l g i = moreU l g (i + 1) ∧ l = l ∧ (↑(List.length l) : Int) = (↑(List.length l) : Int) ∧ (↑i : Int) + 1 = (↑(i + 1) : Int) ∧ (0 ≤ (↑(i + 1) : Int) ∧ (↑(i + 1) : Int) ≤ 1000000) ∧ rndU l g i = rndU l g (i + 1)))))) (Nat.beq (2 : Nat) (2 : Nat) = true ∧ l = l ∧ (↑rr : Int) = (↑rr : Int) ∧ moreU l g i = moreU l g (List.length l) ∧ rndU l g i = rndU l g (List.length l))) := by kernel_rfl
set_option maxHeartbeats 4000000 in
theorem lRlI (l : List itT.ty) (g : List Bool) (rr : Nat) {W : World} {R own0 : Nat → Prop} {ρ0 : Nat → Option Value} (hown : HownOk (env gl [(66, klfits), (47, kPlacesB), (63, kmay), (64, kContZ)]) own0 ρ0) : LOk Tryz.prog (env gl [(66, klfits), (47, kPlacesB), (63, kmay), (64, kContZ)]) (ctx ea has) gl W R own0 ρ0 (loopN (loopN (bodyOf Tryz.f46) 0) 0) (LRlI l g rr) := by
 refine loop1_ok (J := fun _ => True) (N := l.length) (H := HRlI l g rr) (X := XRlI l g rr) (env_ok (con := [(66, klfits), (47, kPlacesB), (63, kmay), (64, kContZ)]) ⟨clfits, cPlacesB, cmay, cContZ, trivial⟩) hown (ls := fun i => []) (fun i => noSums (by kernel_rfl)) (fun hm i hi hj => ?_) 0 (fun hm => by first | exact Nat.zero_le _ | omega) (fun hm => trivial)
 rw [bRlI gl l g rr i]
 delta RQ IT
 obtain ⟨h1, h2, h3, h4⟩ := hm
 have hlen := rndU_len l g i
 have hn := h1.1
 have db : RT.bool.dflt = false := rfl
 have hp : (plA l g).length = l.length + 1 := plL_len l g _
 have hget := rndU_get l g i i (Nat.le_refl _)
 simp only [Int.toNat_natCast, db, hlen, hget, hp]
 refine ⟨fun h => ?_, fun h => ?_⟩
 ·have h := of_decide_eq_true h
  refine ⟨by omega, fun _ => ⟨fun _ => by omega, fun _ => ⟨fun g1 => ?_, fun _ => ⟨fun g1 => ⟨by omega, fun _ => ?_⟩, fun g1 => ?_⟩⟩⟩⟩
  ·rw [Bool.and_eq_true] at g1
   have q := h2 i g1.1
   exact ⟨by omega, by omega, trivial, q.1, q.2, plA_le h1 g⟩
  ·have e : goesL l g i = true := g1
   have e1 : true = moreU l g (i + 1) := by rw [moreU, if_pos e]
   have e2 : (rndU l g i).set i true = rndU l g (i + 1) := by rw [rndU, if_pos e]
   exact ⟨by omega, trivial, trivial, trivial, trivial, e1, trivial, trivial, by omega, by omega, e2⟩
  ·have e : goesL l g i = false := g1
   have e1 : moreU l g i = moreU l g (i + 1) := by rw [moreU, if_neg (by rw [e]; simp)]
   have e2 : rndU l g i = rndU l g (i + 1) := by rw [rndU, if_neg (by rw [e]; simp)]
   exact ⟨by omega, trivial, trivial, trivial, trivial, e1, trivial, trivial, by omega, by omega, e2⟩
 ·have h := of_decide_eq_false h
  have : i = l.length := by omega
  subst this; exact ⟨rfl, trivial, trivial, rfl, rfl⟩
def HRlO (l : List itT.ty) (i : Nat) : SState := { fr := [(0, .ro itT l), (5, .own 0), (6, .int .i64 (.sym i 0 1000000))], hp := [(0, some (.recs .bool (rlxN l i)))], next := 1, sz := 62 }
def XRlO (l : List itT.ty) : SState := { fr := [], hp := [], next := 0, sz := 62 }
def YRlO (l : List itT.ty) : SState := { fr := [(2, .own 0), (3, .any), (4, .bool (.lit true))], hp := [(0, some (.recs .bool (rlx l)))], next := 1, sz := 62 }
def LRlO (l : List itT.ty) : LSum := ⟨HRlO l 0, fun k => .ite (false) (k (.exit 0) (XRlO l)) (k .ret (YRlO l)), ItOk l ∧ TgOk l⟩
theorem bRlO (gl : List (Nat × SVal)) (l : List itT.ty) (i : Nat) : (Tr.sat (rnd2 (env gl [(66, klfits), (47, kPlacesB), (63, kmay), (64, kContZ)]) (fun i => chg l i) (l.length) (HRlO l) 0 (false) (XRlO l) (YRlO l) i) (run (env gl [(66, klfits), (47, kPlacesB), (63, kmay), (64, kContZ)]) [(9, LRlI l (rlxN l i) i)] (loopN (bodyOf Tryz.f46) 0) (HRlO l i) .leaf)) = (
 RQ (ItOk l ∧ List.length (rlxN l i) = List.length l) (RQ ((ItOk l ∧ TgOk l ∧ List.length (rlxN l i) = List.length l ∧ i ≤ 1000000) ∧ l = l ∧ (↑i : Int) = (↑i : Int) ∧ plA l (rlxN l i) = plA l (rlxN l i) ∧ false = moreU l (rlxN l i) (0 : Nat) ∧ l = l ∧ (↑(List.length l) : Int) = (↑(List.length l) : Int) ∧ (0 : Int) = (↑(0 : Nat) : Int) ∧ rlxN l i = rndU l (rlxN l i) (0 : Nat)) (IT (!moreU l (rlxN l i) (List.length l)) (false = false ∧ true = true ∧ rndU l (rlxN l i) (List.length l) = rlx l) (i < List.length l ∧ chg l (i + 1) ∧ l = l ∧ (↑i : Int) + 1 = (↑(i + 1) : Int) ∧ (0 ≤ (↑(i + 1) : Int) ∧ (↑(i + 1) : Int) ≤ 1000000) ∧ rndU l (rlxN l i) (List.length l) = rlxN l (i + 1))))) := by kernel_rfl
set_option maxHeartbeats 4000000 in
theorem lRlO (l : List itT.ty) {W : World} {R own0 : Nat → Prop} {ρ0 : Nat → Option Value} (hown : HownOk (env gl [(66, klfits), (47, kPlacesB), (63, kmay), (64, kContZ)]) own0 ρ0) : LOk Tryz.prog (env gl [(66, klfits), (47, kPlacesB), (63, kmay), (64, kContZ)]) (ctx ea has) gl W R own0 ρ0 (loopN (bodyOf Tryz.f46) 0) (LRlO l) := by
 refine loop2_ok (J := fun i => chg l i) (N := l.length) (H := HRlO l) (X := XRlO l) (Y := YRlO l) (env_ok (con := [(66, klfits), (47, kPlacesB), (63, kmay), (64, kContZ)]) ⟨clfits, cPlacesB, cmay, cContZ, trivial⟩) hown (ls := fun i => [(9, LRlI l (rlxN l i) i)]) (fun i => hl1 (by kernel_rfl) (by kernel_rfl) (lRlI l (rlxN l i) i hown)) (fun hm i hi hj => ?_) 0 (fun hm => by first | exact Nat.zero_le _ | omega) (fun hm => fun j hj => absurd hj (Nat.not_lt_zero _))
 rw [bRlO gl l i]
 delta RQ IT
 obtain ⟨h1, h2⟩ := hm
 have hlen := rlxN_len l i
 have hn := h1.1
 refine ⟨⟨h1, hlen⟩, fun _ => ⟨⟨⟨h1, h2, hlen, by omega⟩, rfl, rfl, rfl, rfl, rfl, rfl, rfl, rfl⟩, fun _ => ⟨fun h => ?_, fun h => ?_⟩⟩⟩
 ·have h : moreU l (rlxN l i) l.length = false := by simpa using h
  exact ⟨rfl, rfl, rlx_end l hi h⟩
 ·have h : moreU l (rlxN l i) l.length = true := by simpa using h
  have hc : chg l (i + 1) := fun j hj' => by
   by_cases e : j < i
   ·exact hj j e
   ·have : j = i := by omega
    subst this; exact h
  have := chg_le l hc
  exact ⟨by omega, hc, rfl, by omega, by omega, rfl⟩
def kDo12 : List SVal → Nat → Acc ORes := fun a n => match a with | [.ro (.flat (.int .i64) [.int .i64, .bool]) l] => .ret (newR n (.tuple [.own 0, .any, .bool (.lit true)]) ([(0, .recs .bool (rlx l))]) 1 (some (ItOk l ∧ TgOk l))) | _ => .fail "Do12"
theorem argDo12 (l : List itT.ty) : (all (subL tAtN none' [] deep [.ro (.flat (.int .i64) [.int .i64, .bool]) l] [.ro itT l])) = (
 l = l) := by kernel_rfl
theorem runDo12 (gl : List (Nat × SVal)) (l : List itT.ty) : (Tr.sat (newQ (env gl [(66, klfits), (47, kPlacesB), (63, kmay), (64, kContZ)]) (.tuple [.own 0, .any, .bool (.lit true)]) ([(0, .recs .bool (rlx l))]) 1) (run (env gl [(66, klfits), (47, kPlacesB), (63, kmay), (64, kContZ)]) [(6, LRlO l)] (bodyOf Tryz.f46) (start [.ro itT l] 62) (ends (env gl [(66, klfits), (47, kPlacesB), (63, kmay), (64, kContZ)]) Tryz.f46.results.toList))) = (
 RQ ((!decide ((4096 : Int) < (↑(List.length l) : Int))) = true → List.length l ≤ 1000000) (RQ ((!(decide ((4096 : Int) < (↑(List.length l) : Int)) || !!decide (0 ≤ fndI (badT l) (List.length l)))) = true → List.length l ≤ 1000000) (IT (decide ((4096 : Int) < (↑(List.length l) : Int)) || !!decide (0 ≤ fndI (badT l) (List.length l)) || decide (0 ≤ fndI (badZ l) (List.length l))) (false = true ∧ @List.nil (RT.ty RT.bool) = rlx l) (RQ (0 ≤ (↑(List.length l) : Int) ∧ (↑(List.length l) : Int) ≤ (↑(List.length l) : Int) ∧ (↑(List.length l) : Int) ≤ 137438953472) (RQ ((ItOk l ∧ TgOk l) ∧ l = l ∧ (0 : Int) = (↑(0 : Nat) : Int) ∧ List.replicate (Int.toNat (↑(List.length l) : Int)) (RT.dflt RT.bool) = rlxN l (0 : Nat)) (IT false (False ∧ False ∧ False) (true = true ∧ rlx l = rlx l))))))) := by kernel_rfl
set_option maxHeartbeats 4000000 in
theorem cDo12 : Con ea has gl 46 kDo12 := by
 refine new_mkB Tryz.func46 62 (con := [(66, klfits), (47, kPlacesB), (63, kmay), (64, kContZ)]) ⟨clfits, cPlacesB, cmay, cContZ, trivial⟩ (fun hA hr hv => ?_) (by kernel_rfl) (by kernel_rfl) Tryz.ntmps46
 unfold kDo12 at hr; split at hr
 ·rename_i l
  have := ret_ok hr; subst this
  replace hv := hv _ rfl
  refine ⟨_, [(6, LRlO l)], _, _, _, ⟨rfl, rfl, rfl⟩, .of (argDo12 l) (by simp), rfl, rfl, (fun W R ρ0 own0 hown => hl1 (by kernel_rfl) (by kernel_rfl) (lRlO l hown)), .of (runDo12 gl l) ?_⟩
  delta RQ IT
  clear hr
  obtain ⟨h1, h2⟩ := hv
  have hn := h1.1
  have a1 : fndI (badT l) l.length = -1 := fnd_none fun i _ => by
   unfold badT
   cases hb : itB l i with
   | false => rfl
   | true => have := h2 i hb; simp; omega
  have a2 : fndI (badZ l) l.length = -1 := fnd_none fun i _ => by
   have := h1.2 i
   unfold badZ; simp; omega
  rw [a1, a2]
  refine ⟨fun _ => by omega, fun _ => ⟨fun _ => by omega, fun _ => ⟨fun h => ?_, fun _ => ⟨by omega, fun _ => ⟨⟨⟨h1, h2⟩, rfl, rfl, by rw [Int.toNat_natCast]; rfl⟩, fun _ => ⟨fun h => (by cases h), fun _ => ⟨rfl, rfl⟩⟩⟩⟩⟩⟩⟩
  simp at h; omega
 ·cases hr
end
end Go.Proofs.YtacmmedhjebfjaaGreatDoor
set_option linter.unusedVariables false
set_option linter.unusedSimpArgs false
namespace Go.Proofs.YtacmmedhjebfjaaGreatDoor
open Go.RowKit Go.Sy Go.Fac
abbrev imT : RT := .fmap (.int .i64) .i64
abbrev Mp := List (Int × Int)
def mpG (m : Mp) (k : Int) : Int := @gGet _ _ (FK.deq (.int .i64)) 0 m k
theorem mpG_eq : ∀ (m : Mp) (k : Int), mpG m k = mapGet m k
 | [], _ => rfl
 | (a, b) :: m, k => by
  have ih := mpG_eq m k
  unfold mpG at ih ⊢
  unfold gGet mapGet
  by_cases h : a = k
  ·rw [if_pos h, if_pos h]
  ·rw [if_neg h, if_neg h, ih]
theorem getD_app_l {α : Type} (l l' : List α) (d : α) {i : Nat} (h : i < l.length) : (l ++ l').getD i d = l.getD i d := by
 rw [List.getD_eq_getElem?_getD, List.getD_eq_getElem?_getD, List.getElem?_append_left h]
theorem getD_app_r {α : Type} (l l' : List α) (d : α) {i : Nat} (h : l.length ≤ i) : (l ++ l').getD i d = l'.getD (i - l.length) d := by
 rw [List.getD_eq_getElem?_getD, List.getD_eq_getElem?_getD, List.getElem?_append_right h]
theorem getD_one {α : Type} (l : List α) (x d : α) : (l ++ [x]).getD l.length d = x := by
 rw [getD_app_r _ _ _ (Nat.le_refl _), Nat.sub_self]; rfl
theorem getD_none {α : Type} (l : List α) (d : α) {i : Nat} (h : l.length ≤ i) : l.getD i d = d := by
 rw [List.getD_eq_getElem?_getD, List.getElem?_eq_none h]; rfl
def rk (m : List Int) : Nat → Nat
 | 0 => 0
 | w + 1 => rk m w + if m.getD w 0 = 0 then 0 else 1
theorem rk_le (m : List Int) : ∀ w, rk m w ≤ w
 | 0 => Nat.le_refl _
 | w + 1 => by have := rk_le m w; unfold rk; split <;> omega
theorem rk_mono (m : List Int) {v : Nat} : ∀ w, v ≤ w → rk m v ≤ rk m w
 | 0, h => by rw [show v = 0 by omega]; exact Nat.le_refl _
 | w + 1, h => by
  by_cases e : v = w + 1
  ·rw [e]; exact Nat.le_refl _
  ·have := rk_mono m (v := v) w (by omega)
   rw [rk]; omega
theorem rk_lt (m : List Int) {v w : Nat} (h : v < w) (hm : m.getD v 0 ≠ 0) : rk m v < rk m w := by
 have := rk_mono m w (show v + 1 ≤ w from h)
 rw [rk, if_neg hm] at this; omega
theorem rk_find (m : List Int) : ∀ n x, x < rk m n → ∃ w, w < n ∧ m.getD w 0 ≠ 0 ∧ rk m w = x
 | 0, x, h => by cases h
 | n + 1, x, h => by
  by_cases hx : x < rk m n
  ·obtain ⟨w, h1, h2⟩ := rk_find m n x hx; exact ⟨w, by omega, h2⟩
  ·rw [rk] at h
   by_cases hm : m.getD n 0 = 0
   ·rw [if_pos hm] at h; omega
   ·rw [if_neg hm] at h; exact ⟨n, by omega, hm, by omega⟩
def szW (c m : List Int) (w : Nat) : Int := if twoB c m w = true then 2 else 1
theorem szW_12 (c m : List Int) (w : Nat) : szW c m w = 1 ∨ szW c m w = 2 := by unfold szW; split <;> simp
def wIt (c m : List Int) : Nat → List itT.ty
 | 0 => []
 | w + 1 => if m.getD w 0 = 0 then wIt c m w else wIt c m w ++ [(szW c m w, 0, false)]
def wOw (i : Nat) (m : List Int) : Nat → List (Int × Int)
 | 0 => []
 | w + 1 => if m.getD w 0 = 0 then wOw i m w else wOw i m w ++ [((i : Int), (w : Int))]
def wAt (b : Nat) (m : List Int) : Nat → Mp
 | 0 => []
 | w + 1 => if m.getD w 0 = 0 then wAt b m w else mapPut (wAt b m w) (w : Int) ((b + rk m w : Nat) : Int)
theorem wIt_len (c m : List Int) : ∀ w, (wIt c m w).length = rk m w
 | 0 => rfl
 | w + 1 => by have := wIt_len c m w; unfold wIt rk; split <;> simp [this]
theorem wOw_len (i : Nat) (m : List Int) : ∀ w, (wOw i m w).length = rk m w
 | 0 => rfl
 | w + 1 => by have := wOw_len i m w; unfold wOw rk; split <;> simp [this]
theorem wIt_get (c m : List Int) (d : itT.ty) : ∀ w v, v < w → m.getD v 0 ≠ 0 → (wIt c m w).getD (rk m v) d = (szW c m v, 0, false)
 | 0, v, h, _ => by omega
 | w + 1, v, h, hv => by
  unfold wIt
  by_cases e : v = w
  ·subst e
   rw [if_neg hv, ← wIt_len c m v]; exact getD_one _ _ _
  ·have ih := wIt_get c m d w v (by omega) hv
   have := rk_lt m (show v < w by omega) hv
   split
   ·exact ih
   ·rw [getD_app_l _ _ _ (by rw [wIt_len]; exact this)]; exact ih
theorem wOw_get (i : Nat) (m : List Int) (d : Int × Int) : ∀ w v, v < w → m.getD v 0 ≠ 0 → (wOw i m w).getD (rk m v) d = ((i : Int), (v : Int))
 | 0, v, h, _ => by omega
 | w + 1, v, h, hv => by
  unfold wOw
  by_cases e : v = w
  ·subst e
   rw [if_neg hv, ← wOw_len i m v]; exact getD_one _ _ _
  ·have ih := wOw_get i m d w v (by omega) hv
   have := rk_lt m (show v < w by omega) hv
   split
   ·exact ih
   ·rw [getD_app_l _ _ _ (by rw [wOw_len]; exact this)]; exact ih
theorem wAt_get (b : Nat) (m : List Int) : ∀ w v, v < w → m.getD v 0 ≠ 0 → mapGet (wAt b m w) (v : Int) = ((b + rk m v : Nat) : Int)
 | 0, v, h, _ => by omega
 | w + 1, v, h, hv => by
  unfold wAt
  by_cases e : v = w
  ·subst e
   rw [if_neg hv, get_put]
  ·have ih := wAt_get b m w v (by omega) hv
   split
   ·exact ih
   ·rw [get_put_ne _ _ _ _ (by omega)]; exact ih
theorem wAt_le (b : Nat) (m : List Int) (k : Int) : ∀ w, 0 ≤ mapGet (wAt b m w) k ∧ mapGet (wAt b m w) k ≤ ((b + rk m w : Nat) : Int)
 | 0 => by rw [wAt]; unfold mapGet; omega
 | w + 1 => by
  have ih := wAt_le b m k w
  rw [wAt, rk]
  by_cases hm : m.getD w 0 = 0
  ·rw [if_pos hm, if_pos hm]; omega
  ·rw [if_neg hm, if_neg hm]
   by_cases e : ((w : Nat) : Int) = k
   ·subst e; rw [get_put]; omega
   ·rw [get_put_ne _ _ _ _ e]; omega
def oIt (l : List Ob) : Nat → List itT.ty
 | 0 => []
 | i + 1 => oIt l i ++ wIt (obN l i).code (obN l i).map (obN l i).map.length
def oOw (l : List Ob) : Nat → List (Int × Int)
 | 0 => []
 | i + 1 => oOw l i ++ wOw i (obN l i).map (obN l i).map.length
def oBs (l : List Ob) : Nat → Nat
 | 0 => 0
 | i + 1 => oBs l i + rk (obN l i).map (obN l i).map.length
def oIm (l : List Ob) : Nat → List (Option Mp)
 | 0 => []
 | i + 1 => oIm l i ++ [some (wAt (oBs l i) (obN l i).map (obN l i).map.length)]
def oDn (l : List Ob) : Nat → Int
 | 0 => 0
 | i + 1 => oDn l i + (obN l i).data.length
def oDa (l : List Ob) : Nat → List Int
 | 0 => []
 | i + 1 => oDa l i ++ [oDn l i]
theorem oIt_len (l : List Ob) : ∀ i, (oIt l i).length = oBs l i
 | 0 => rfl
 | i + 1 => by rw [oIt, oBs, List.length_append, oIt_len l i, wIt_len]
theorem oOw_len (l : List Ob) : ∀ i, (oOw l i).length = oBs l i
 | 0 => rfl
 | i + 1 => by rw [oOw, oBs, List.length_append, oOw_len l i, wOw_len]
theorem oIm_len (l : List Ob) : ∀ i, (oIm l i).length = i
 | 0 => rfl
 | i + 1 => by rw [oIm, List.length_append, oIm_len l i]; rfl
theorem oDa_len (l : List Ob) : ∀ i, (oDa l i).length = i
 | 0 => rfl
 | i + 1 => by rw [oDa, List.length_append, oDa_len l i]; rfl
theorem oBs_mono (l : List Ob) {j : Nat} : ∀ i, j ≤ i → oBs l j ≤ oBs l i
 | 0, h => by rw [show j = 0 by omega]; exact Nat.le_refl _
 | i + 1, h => by
  by_cases e : j = i + 1
  ·rw [e]; exact Nat.le_refl _
  ·have := oBs_mono l (j := j) i (by omega)
   rw [oBs]; omega
theorem oIm_get (l : List Ob) (d : Option Mp) : ∀ n i, i < n → (oIm l n).getD i d = some (wAt (oBs l i) (obN l i).map (obN l i).map.length)
 | 0, i, h => by omega
 | n + 1, i, h => by
  rw [oIm]
  by_cases e : i = n
  ·subst e
   have := getD_one (oIm l i) (some (wAt (oBs l i) (obN l i).map (obN l i).map.length)) d
   rw [oIm_len] at this; exact this
  ·rw [getD_app_l _ _ _ (by rw [oIm_len]; omega)]; exact oIm_get l d n i (by omega)
theorem oDa_get (l : List Ob) (d : Int) : ∀ n i, i < n → (oDa l n).getD i d = oDn l i
 | 0, i, h => by omega
 | n + 1, i, h => by
  rw [oDa]
  by_cases e : i = n
  ·subst e
   have := getD_one (oDa l i) (oDn l i) d
   rw [oDa_len] at this; exact this
  ·rw [getD_app_l _ _ _ (by rw [oDa_len]; omega)]; exact oDa_get l d n i (by omega)
def pix (l : List Ob) (o w : Nat) : Nat := oBs l o + rk (obN l o).map w
theorem pix_lt {l : List Ob} {o w n : Nat} (ho : o < n) (hw : w < (obN l o).map.length) (hm : (obN l o).map.getD w 0 ≠ 0) : pix l o w < oBs l n := by
 have h1 := oBs_mono l n (show o + 1 ≤ n from ho)
 have h2 := rk_lt _ hw hm
 unfold pix; rw [oBs] at h1; omega
theorem oIt_get (l : List Ob) (d : itT.ty) {o w : Nat} (hw : w < (obN l o).map.length) (hm : (obN l o).map.getD w 0 ≠ 0) : ∀ n, o < n → (oIt l n).getD (pix l o w) d = (szW (obN l o).code (obN l o).map w, 0, false)
 | 0, h => by omega
 | n + 1, h => by
  rw [oIt]
  by_cases e : o = n
  ·subst e
   unfold pix
   rw [getD_app_r _ _ _ (by rw [oIt_len]; omega), oIt_len, Nat.add_sub_cancel_left]
   exact wIt_get _ _ _ _ _ hw hm
  ·have := pix_lt (l := l) (show o < n by omega) hw hm
   rw [getD_app_l _ _ _ (by rw [oIt_len]; exact this)]
   exact oIt_get l d hw hm n (by omega)
theorem oOw_get (l : List Ob) (d : Int × Int) {o w : Nat} (hw : w < (obN l o).map.length) (hm : (obN l o).map.getD w 0 ≠ 0) : ∀ n, o < n → (oOw l n).getD (pix l o w) d = ((o : Int), (w : Int))
 | 0, h => by omega
 | n + 1, h => by
  rw [oOw]
  by_cases e : o = n
  ·subst e
   unfold pix
   rw [getD_app_r _ _ _ (by rw [oOw_len]; omega), oOw_len, Nat.add_sub_cancel_left]
   exact wOw_get _ _ _ _ _ hw hm
  ·have := pix_lt (l := l) (show o < n by omega) hw hm
   rw [getD_app_l _ _ _ (by rw [oOw_len]; exact this)]
   exact oOw_get l d hw hm n (by omega)
theorem pix_find (l : List Ob) : ∀ n x, x < oBs l n → ∃ o w, o < n ∧ w < (obN l o).map.length ∧ (obN l o).map.getD w 0 ≠ 0 ∧ pix l o w = x
 | 0, x, h => by cases h
 | n + 1, x, h => by
  by_cases hx : x < oBs l n
  ·obtain ⟨o, w, h1, h2⟩ := pix_find l n x hx; exact ⟨o, w, by omega, h2⟩
  ·rw [oBs] at h
   obtain ⟨w, h1, h2, h3⟩ := rk_find (obN l n).map (obN l n).map.length (x - oBs l n) (by omega)
   exact ⟨n, w, by omega, h1, h2, by unfold pix; omega⟩
def im1 (im : List (Option Mp)) (o w : Int) : Int := mpG ((im.getD o.toNat none).getD []) w
abbrev imL (l : List Ob) : List (Option Mp) := oIm l l.length
theorem im1_eq {l : List Ob} {o : Nat} (ho : o < l.length) (w : Int) : im1 (imL l) o w = mapGet (wAt (oBs l o) (obN l o).map (obN l o).map.length) w := by
 unfold im1; rw [Int.toNat_natCast, oIm_get l _ _ _ ho]; exact mpG_eq _ _
theorem im1_at {l : List Ob} {o w : Nat} (ho : o < l.length) (hw : w < (obN l o).map.length) (hm : (obN l o).map.getD w 0 ≠ 0) : im1 (imL l) o w = (pix l o w : Nat) := by
 rw [im1_eq ho, wAt_get _ _ _ _ hw hm]; rfl
theorem im1_le {l : List Ob} {o : Nat} (ho : o < l.length) (w : Int) : 0 ≤ im1 (imL l) o w ∧ im1 (imL l) o w ≤ (oBs l l.length : Nat) := by
 rw [im1_eq ho]
 have h1 := wAt_le (oBs l o) (obN l o).map w (obN l o).map.length
 have h2 := oBs_mono l l.length (show o + 1 ≤ l.length from ho)
 rw [oBs] at h2; omega
def aimV (l : List Ob) (g : Glb) (i j : Nat) : Int := im1 (imL l) (realM l g i (relN l i j).sym).1 (symAt l (realM l g i (relN l i j).sym).1 (realM l g i (relN l i j).sym).2).value
def brP (l : List Ob) (i j : Nat) : Nat := (im1 (imL l) i (relN l i j).at_).toNat
def brS (l : List Ob) (g : Glb) (i j : Nat) (its : List itT.ty) : List itT.ty :=
 if (relN l i j).kind = 2 then its.set (brP l i j) ((its.getD (brP l i j) itT.dflt).1, aimV l g i j, true) else its
def brJ (l : List Ob) (g : Glb) (i : Nat) (its : List itT.ty) : Nat → List itT.ty
 | 0 => its
 | j + 1 => brS l g i j (brJ l g i its j)
def brO (l : List Ob) (g : Glb) : Nat → List itT.ty
 | 0 => oIt l l.length
 | i + 1 => brJ l g i (brO l g i) (obN l i).crels.length
abbrev itF (l : List Ob) (g : Glb) : List itT.ty := brO l g l.length
theorem brS_len (l : List Ob) (g : Glb) (i j : Nat) (its : List itT.ty) : (brS l g i j its).length = its.length := by unfold brS; split <;> simp
theorem brJ_len (l : List Ob) (g : Glb) (i : Nat) (its : List itT.ty) : ∀ j, (brJ l g i its j).length = its.length
 | 0 => rfl
 | j + 1 => by rw [brJ, brS_len, brJ_len l g i its j]
theorem brO_len (l : List Ob) (g : Glb) : ∀ i, (brO l g i).length = oBs l l.length
 | 0 => oIt_len l _
 | i + 1 => by rw [brO, brJ_len, brO_len l g i]
theorem getD_set {α : Type} (l : List α) (i j : Nat) (x d : α) : (l.set i x).getD j d = if i = j ∧ j < l.length then x else l.getD j d := by
 rw [List.getD_eq_getElem?_getD, List.getElem?_set]
 by_cases h : i = j
 ·subst h
  by_cases h2 : i < l.length
  ·rw [if_pos rfl, if_pos h2, if_pos ⟨rfl, h2⟩]; rfl
  ·rw [if_pos rfl, if_neg h2, if_neg (fun h => h2 h.2), getD_none _ _ (by omega)]; rfl
 ·rw [if_neg h, if_neg (fun h' => h h'.1), List.getD_eq_getElem?_getD]
theorem brS_two (its : List itT.ty) (p : Nat) (v : Int) (h : p < its.length) :
  (its.set p ((its.getD p itT.dflt).1, (its.getD p itT.dflt).2.1, true)).set p (((its.set p ((its.getD p itT.dflt).1, (its.getD p itT.dflt).2.1, true)).getD p itT.dflt).1, v, ((its.set p ((its.getD p itT.dflt).1, (its.getD p itT.dflt).2.1, true)).getD p itT.dflt).2.2) = its.set p ((its.getD p itT.dflt).1, v, true) := by
 rw [List.set_set, getD_set, if_pos ⟨rfl, h⟩]
theorem brS_size (l : List Ob) (g : Glb) (i j : Nat) (its : List itT.ty) (n : Nat) : itS (brS l g i j its) n = itS its n := by
 unfold brS itS
 split
 ·rw [getD_set]
  split
  ·rename_i h; rw [← h.1]
  ·rfl
 ·rfl
theorem brJ_size (l : List Ob) (g : Glb) (i : Nat) (its : List itT.ty) (n : Nat) : ∀ j, itS (brJ l g i its j) n = itS its n
 | 0 => rfl
 | j + 1 => by rw [brJ, brS_size, brJ_size l g i its n j]
theorem brO_size (l : List Ob) (g : Glb) (n : Nat) : ∀ i, itS (brO l g i) n = itS (oIt l l.length) n
 | 0 => rfl
 | i + 1 => by rw [brO, brJ_size, brO_size l g n i]
def aimOk (n : Int) (its : List itT.ty) : Prop := ∀ i, 0 ≤ itG its i ∧ itG its i ≤ n
theorem aimV_ok {l : List Ob} {g : Glb} (G : NmG l g) {i j : Nat} (hi : i < l.length) (hj : j < (obN l i).crels.length) : 0 ≤ aimV l g i j ∧ aimV l g i j ≤ (oBs l l.length : Nat) := by
 obtain ⟨_, _, c3, c4, _⟩ := (G.val i hi).crel hj _ rfl
 obtain ⟨o, x, e, ho, _⟩ := G.real hi c3 c4
 unfold aimV; rw [e]; exact im1_le ho _
theorem brJ_aim {l : List Ob} {g : Glb} (G : NmG l g) {i : Nat} (hi : i < l.length) {its : List itT.ty} (h : aimOk (oBs l l.length : Nat) its) : ∀ j, j ≤ (obN l i).crels.length → aimOk (oBs l l.length : Nat) (brJ l g i its j)
 | 0, _ => h
 | j + 1, hj => by
  have ih := brJ_aim G hi h j (by omega)
  rw [brJ]; unfold brS
  split
  ·intro n
   unfold itG
   rw [getD_set]
   split
   ·exact aimV_ok G hi (by omega)
   ·exact ih n
  ·exact ih
theorem wIt_zero (c m : List Int) : ∀ w n, itG (wIt c m w) n = 0 ∧ itB (wIt c m w) n = false
 | 0, n => ⟨rfl, rfl⟩
 | w + 1, n => by
  unfold wIt
  split
  ·exact wIt_zero c m w n
  ·by_cases h : n < (wIt c m w).length
   ·unfold itG itB; rw [getD_app_l _ _ _ h]; exact wIt_zero c m w n
   ·by_cases e : n = (wIt c m w).length
    ·unfold itG itB; rw [e, getD_one]; exact ⟨rfl, rfl⟩
    ·unfold itG itB; rw [getD_none _ _ (by simp; omega)]; exact ⟨rfl, rfl⟩
theorem oIt_zero (l : List Ob) : ∀ i n, itG (oIt l i) n = 0 ∧ itB (oIt l i) n = false
 | 0, n => ⟨rfl, rfl⟩
 | i + 1, n => by
  rw [oIt]
  by_cases h : n < (oIt l i).length
  ·unfold itG itB; rw [getD_app_l _ _ _ h]; exact oIt_zero l i n
  ·unfold itG itB; rw [getD_app_r _ _ _ (by omega)]; exact wIt_zero _ _ _ _
theorem brO_aim {l : List Ob} {g : Glb} (G : NmG l g) : ∀ i, i ≤ l.length → aimOk (oBs l l.length : Nat) (brO l g i)
 | 0, _ => fun n => by rw [brO, (oIt_zero l _ n).1]; omega
 | i + 1, h => by rw [brO]; exact brJ_aim G (by omega) (brO_aim G i (by omega)) _ (Nat.le_refl _)
def sumS (its : List itT.ty) : Nat → Int
 | 0 => 0
 | i + 1 => sumS its i + itS its i
theorem wIt_size (c m : List Int) : ∀ w n, n < (wIt c m w).length → itS (wIt c m w) n = 1 ∨ itS (wIt c m w) n = 2
 | 0, n, h => by cases h
 | w + 1, n, h => by
  unfold wIt at h ⊢
  split
  ·rename_i hm; rw [if_pos hm] at h; exact wIt_size c m w n h
  ·rename_i hm
   rw [if_neg hm] at h
   by_cases h2 : n < (wIt c m w).length
   ·unfold itS; rw [getD_app_l _ _ _ h2]; exact wIt_size c m w n h2
   ·have e : n = (wIt c m w).length := by simp at h; omega
    unfold itS; rw [e, getD_one]; exact szW_12 c m w
theorem oIt_size (l : List Ob) : ∀ i n, n < oBs l i → itS (oIt l i) n = 1 ∨ itS (oIt l i) n = 2
 | 0, n, h => by cases h
 | i + 1, n, h => by
  rw [oIt]
  by_cases h2 : n < (oIt l i).length
  ·unfold itS; rw [getD_app_l _ _ _ h2]; exact oIt_size l i n (by rw [oIt_len] at h2; exact h2)
  ·unfold itS; rw [getD_app_r _ _ _ (by omega)]
   refine wIt_size _ _ _ _ ?_
   rw [oBs] at h; rw [wIt_len]; rw [oIt_len] at h2 ⊢; omega
theorem itF_size (l : List Ob) (g : Glb) {n : Nat} (h : n < oBs l l.length) : itS (itF l g) n = 1 ∨ itS (itF l g) n = 2 := by
 rw [brO_size]; exact oIt_size l _ n h
theorem itF_size0 (l : List Ob) (g : Glb) (n : Nat) : 0 ≤ itS (itF l g) n ∧ itS (itF l g) n ≤ 2 := by
 by_cases h : n < oBs l l.length
 ·rcases itF_size l g h with h | h <;> omega
 ·have : itS (itF l g) n = 0 := by unfold itS; rw [getD_none _ _ (by rw [brO_len]; omega)]; rfl
  omega
theorem sumS_le (l : List Ob) (g : Glb) : ∀ n, n ≤ oBs l l.length → (n : Int) ≤ sumS (itF l g) n ∧ sumS (itF l g) n ≤ 2 * n
 | 0, _ => by simp [sumS]
 | n + 1, h => by
  have ih := sumS_le l g n (by omega)
  have := itF_size l g (show n < oBs l l.length by omega)
  rw [sumS]; omega
theorem oBs_le (l : List Ob) : ∀ i, (∀ j, j < i → (obN l j).map.length ≤ 2048) → oBs l i ≤ 2048 * i
 | 0, _ => Nat.le_refl _
 | i + 1, h => by
  have h1 := oBs_le l i fun j hj => h j (by omega)
  have h2 := h i (by omega)
  have h3 := rk_le (obN l i).map (obN l i).map.length
  rw [oBs]; omega
theorem oDn_le (l : List Ob) : ∀ i, (∀ j, j < i → (obN l j).data.length ≤ 2048) → 0 ≤ oDn l i ∧ oDn l i ≤ 2048 * i
 | 0, _ => by simp [oDn]
 | i + 1, h => by
  have h1 := oDn_le l i fun j hj => h j (by omega)
  have h2 := h i (by omega)
  rw [oDn]; omega
theorem NmG.bs {l : List Ob} {g : Glb} (G : NmG l g) {i : Nat} (hi : i ≤ l.length) : oBs l i ≤ 32768 ∧ 0 ≤ oDn l i ∧ oDn l i ≤ 32768 := by
 have h1 := oBs_le l i fun j hj => by have := (G.val j (by omega)).map; have := (G.val j (by omega)).code; omega
 have h2 := oDn_le l i fun j hj => (G.val j (by omega)).data
 have := G.few
 omega
def manyL (l : List Ob) (g : Glb) : Bool := decide (2048 < oDn l l.length) || decide (2048 < sumS (itF l g) (itF l g).length)
def loL (l : List Ob) (g : Glb) : List Bool := if manyL l g = true then [] else rlx (itF l g)
def plLk (l : List Ob) (g : Glb) : List Int := if manyL l g = true then [] else plA (itF l g) (rlx (itF l g))
def layE (l : List Ob) (g : Glb) : FErr := if manyL l g = true then .bare 104 else if 2048 < plS (itF l g) (rlx (itF l g)) (itF l g).length then .bare 104 else .fine
theorem itF_ok {l : List Ob} {g : Glb} (G : NmG l g) (h : manyL l g = false) : ItOk (itF l g) ∧ TgOk (itF l g) ∧ (itF l g).length ≤ 2048 := by
 unfold manyL at h
 simp only [Bool.or_eq_false_iff, decide_eq_false_iff_not] at h
 have h1 := sumS_le l g (itF l g).length (by rw [brO_len]; exact Nat.le_refl _)
 refine ⟨⟨by omega, fun i => by have := itF_size0 l g i; omega⟩, fun i _ => ?_, by omega⟩
 have := brO_aim G l.length (Nat.le_refl _) i
 rw [brO_len]; exact this
end Go.Proofs.YtacmmedhjebfjaaGreatDoor
set_option linter.unusedVariables false
set_option linter.unusedSimpArgs false
namespace Go.Proofs.YtacmmedhjebfjaaGreatDoor
open Go.RowKit Go.Sy Go.Fac
structure LkOk (l : List Ob) (g : Glb) : Prop where
 nm : NmG l g
 few : manyL l g = false
 fit : plS (itF l g) (rlx (itF l g)) (itF l g).length ≤ 2048
abbrev loF (l : List Ob) (g : Glb) : List Bool := rlx (itF l g)
abbrev plF (l : List Ob) (g : Glb) : List Int := plA (itF l g) (rlx (itF l g))
abbrev plN (l : List Ob) (g : Glb) (n : Nat) : Int := plS (itF l g) (rlx (itF l g)) n
theorem lkOk_of {l : List Ob} {g : Glb} (G : NmG l g) (h : (layE l g).isErr = false) : LkOk l g := by
 unfold layE at h
 by_cases h1 : manyL l g = true
 ·rw [if_pos h1] at h; cases h
 ·rw [if_neg h1] at h
  by_cases h2 : 2048 < plS (itF l g) (rlx (itF l g)) (itF l g).length
  ·rw [if_pos h2] at h; cases h
  ·exact ⟨G, by simpa using h1, by omega⟩
theorem LkOk.lo {l : List Ob} {g : Glb} (K : LkOk l g) : loL l g = loF l g := by unfold loL; rw [if_neg (by rw [K.few]; simp)]
theorem LkOk.pl {l : List Ob} {g : Glb} (K : LkOk l g) : plLk l g = plF l g := by unfold plLk; rw [if_neg (by rw [K.few]; simp)]
theorem plS_mono {its : List itT.ty} (h : ItOk its) (g : List Bool) {i : Nat} : ∀ j, i ≤ j → plS its g i ≤ plS its g j
 | 0, hj => by rw [show i = 0 by omega]; exact Int.le_refl _
 | j + 1, hj => by
  by_cases e : i = j + 1
  ·rw [e]; exact Int.le_refl _
  ·have := plS_mono h g (i := i) j (by omega)
   have h2 := h.2 j
   rw [plS]; split <;> omega
theorem LkOk.plN {l : List Ob} {g : Glb} (K : LkOk l g) {n : Nat} (hn : n ≤ (itF l g).length) : 0 ≤ plN l g n ∧ plN l g n ≤ 2048 := by
 obtain ⟨k1, _⟩ := itF_ok K.nm K.few
 have h1 := plS_le k1 (loF l g) n
 have h2 := plS_mono k1 (loF l g) (itF l g).length hn
 exact ⟨h1.1, Int.le_trans h2 K.fit⟩
theorem LkOk.bs {l : List Ob} {g : Glb} (K : LkOk l g) : oBs l l.length ≤ 2048 ∧ (itF l g).length = oBs l l.length ∧ oDn l l.length ≤ 2048 := by
 obtain ⟨_, _, k3⟩ := itF_ok K.nm K.few
 have e : (itF l g).length = oBs l l.length := brO_len l g _
 have h := K.few
 unfold manyL at h
 simp only [Bool.or_eq_false_iff, decide_eq_false_iff_not] at h
 exact ⟨by omega, e, by omega⟩
theorem oDn_mono (l : List Ob) {j : Nat} : ∀ i, j ≤ i → oDn l j ≤ oDn l i
 | 0, h => by rw [show j = 0 by omega]; exact Int.le_refl _
 | i + 1, h => by
  by_cases e : j = i + 1
  ·rw [e]; exact Int.le_refl _
  ·have := oDn_mono l (j := j) i (by omega)
   rw [oDn]; omega
theorem oDn_nn (l : List Ob) : ∀ i, 0 ≤ oDn l i
 | 0 => Int.le_refl _
 | i + 1 => by have := oDn_nn l i; rw [oDn]; omega
theorem LkOk.dn {l : List Ob} {g : Glb} (K : LkOk l g) {i : Nat} (hi : i < l.length) : 0 ≤ oDn l i ∧ oDn l i + (obN l i).data.length ≤ 2048 := by
 have h1 := oDn_mono l l.length (show i + 1 ≤ l.length from hi)
 have h2 := K.bs
 have h3 := oDn_nn l i
 rw [oDn] at h1; omega
theorem LkOk.code {l : List Ob} {g : Glb} (K : LkOk l g) {o s : Nat} (ho : o < l.length) (hs : s < (obN l o).syms.length) (h2 : (syO l o s).in_ = 2) :
  0 ≤ (syO l o s).value ∧ (syO l o s).value.toNat < (obN l o).map.length ∧ (obN l o).map.getD (syO l o s).value.toNat 0 = 1 ∧ im1 (imL l) o (syO l o s).value = (pix l o (syO l o s).value.toNat : Nat) ∧ pix l o (syO l o s).value.toNat < (itF l g).length := by
 have V := K.nm.val o ho
 obtain ⟨h3, h4, h5⟩ := V.symc hs h2
 have hm := V.map
 have hw : (syO l o s).value.toNat < (obN l o).map.length := by unfold syO; omega
 have e := im1_at ho hw (by unfold syO; rw [h5]; decide)
 have h3' : 0 ≤ (syO l o s).value := h3
 rw [Int.toNat_of_nonneg h3'] at e
 refine ⟨h3, hw, h5, e, ?_⟩
 rw [K.bs.2.1]
 exact pix_lt ho hw (by unfold syO; rw [h5]; decide)
def adrL (l : List Ob) (g : Glb) (x : Int × Int) : Int :=
 if (symAt l x.1 x.2).in_ = 1 then oDn l x.1.toNat + (symAt l x.1 x.2).value else 2048 + plN l g (pix l x.1.toNat (symAt l x.1 x.2).value.toNat)
def Own (l : List Ob) (x : Int × Int) : Prop := ∃ o s : Nat, x = ((o : Int), (s : Int)) ∧ o < l.length ∧ s < (obN l o).syms.length ∧ (syO l o s).in_ ≠ 3
theorem NmG.own {l : List Ob} {g : Glb} (G : NmG l g) {i : Nat} (hi : i < l.length) {s : Int} (h0 : 0 ≤ s) (hs : s < (obN l i).syms.length) : Own l (realM l g i s) := by
 obtain ⟨o, x, e, h1, h2, h3, _⟩ := G.real hi h0 hs
 exact ⟨o, x, e, h1, h2, h3⟩
theorem Own.in12 {l : List Ob} {g : Glb} (G : NmG l g) {o s : Nat} (ho : o < l.length) (hs : s < (obN l o).syms.length) (h3 : (syO l o s).in_ ≠ 3) : (syO l o s).in_ = 1 ∨ (syO l o s).in_ = 2 := by
 have := (G.val o ho).symi hs
 unfold syO at *; omega
theorem LkOk.adr {l : List Ob} {g : Glb} (K : LkOk l g) {x : Int × Int} (hx : Own l x) : 0 ≤ adrL l g x ∧ adrL l g x ≤ 4096 := by
 obtain ⟨o, s, rfl, ho, hs, h3⟩ := hx
 unfold adrL
 simp only [Int.toNat_natCast, symAt_nat]
 rcases Own.in12 K.nm ho hs h3 with h | h
 ·rw [if_pos h]
  have h1 := (K.nm.val o ho).symd hs h
  have h2 := K.dn ho
  unfold syO; omega
 ·rw [if_neg (by omega)]
  obtain ⟨_, _, _, _, h5⟩ := K.code ho hs h
  have := K.plN (Nat.le_of_lt h5)
  omega
structure Img where
 entry : Int
 data : List Int
 code : List Int
 drefs : List Int
 places : List Int
 starts : List Int
 deriving DecidableEq
abbrev rlT : RT := .fmap (.int .i64) .rel
abbrev Rmp := List (Int × Rel)
def rlP (cr : List Rel) : Nat → Rmp
 | 0 => []
 | j + 1 => @gPut _ _ (FK.deq (.int .i64)) (rlP cr j) (cr.getD j RT.rel.dflt).at_ (cr.getD j RT.rel.dflt)
def rsU (l : List Ob) : Nat → List (Option Rmp)
 | 0 => List.replicate l.length none
 | i + 1 => (rsU l i).set i (some (rlP (obN l i).crels (obN l i).crels.length))
abbrev rsL (l : List Ob) : List (Option Rmp) := rsU l l.length
def rG (l : List Ob) (o a : Int) : Rel := @gGet _ _ (FK.deq (.int .i64)) RT.rel.dflt (((rsL l).getD o.toNat none).getD []) a
def rH (l : List Ob) (o a : Int) : Bool := @gHas _ _ (FK.deq (.int .i64)) (((rsL l).getD o.toNat none).getD []) a
theorem rsU_len (l : List Ob) : ∀ i, (rsU l i).length = l.length
 | 0 => by simp [rsU]
 | i + 1 => by rw [rsU, List.length_set, rsU_len l i]
theorem rsU_get (l : List Ob) {o : Nat} (ho : o < l.length) : ∀ n, o < n → (rsU l n).getD o none = some (rlP (obN l o).crels (obN l o).crels.length)
 | 0, h => by omega
 | n + 1, h => by
  rw [rsU, getD_set]
  by_cases e : n = o
  ·subst e; rw [if_pos ⟨rfl, by rw [rsU_len]; exact ho⟩]
  ·rw [if_neg (fun h => e h.1)]; exact rsU_get l ho n (by omega)
theorem rlP_has (cr : List Rel) (a : Int) : ∀ n, @gHas _ _ (FK.deq (.int .i64)) (rlP cr n) a = true → ∃ j, j < n ∧ (cr.getD j RT.rel.dflt).at_ = a ∧ @gGet _ _ (FK.deq (.int .i64)) RT.rel.dflt (rlP cr n) a = cr.getD j RT.rel.dflt
 | 0, h => by cases h
 | n + 1, h => by
  have e1 := @gHas_gPut _ _ (FK.deq (.int .i64)) (cr.getD n RT.rel.dflt).at_ (cr.getD n RT.rel.dflt) a (rlP cr n)
  have e2 := @gGet_gPut _ _ (FK.deq (.int .i64)) RT.rel.dflt (cr.getD n RT.rel.dflt).at_ (cr.getD n RT.rel.dflt) a (rlP cr n)
  rw [rlP] at h ⊢
  rw [e1] at h
  rw [e2]
  by_cases hk : (cr.getD n RT.rel.dflt).at_ = a
  ·rw [if_pos hk]; exact ⟨n, by omega, hk, rfl⟩
  ·rw [if_neg hk]
   rw [Bool.or_eq_true] at h
   rcases h with h | h
   ·exact absurd (by simpa using h) hk
   ·obtain ⟨j, h1, h2⟩ := rlP_has cr a n h; exact ⟨j, by omega, h2⟩
theorem rlP_in (cr : List Rel) (a : Int) : ∀ n j, j < n → (cr.getD j RT.rel.dflt).at_ = a → @gHas _ _ (FK.deq (.int .i64)) (rlP cr n) a = true
 | 0, j, h, _ => by omega
 | n + 1, j, h, ha => by
  have e1 := @gHas_gPut _ _ (FK.deq (.int .i64)) (cr.getD n RT.rel.dflt).at_ (cr.getD n RT.rel.dflt) a (rlP cr n)
  rw [rlP, e1]
  by_cases e : j = n
  ·subst e; rw [Bool.or_eq_true]; exact .inl (by simpa using ha)
  ·rw [Bool.or_eq_true]; exact .inr (rlP_in cr a n j (by omega) ha)
theorem rH_is {l : List Ob} {o : Nat} (ho : o < l.length) {a : Int} (h : rH l o a = true) : ∃ j, j < (obN l o).crels.length ∧ (relN l o j).at_ = a ∧ rG l o a = relN l o j := by
 unfold rH at h
 unfold rG
 rw [Int.toNat_natCast, rsU_get l ho _ ho] at h ⊢
 exact rlP_has _ _ _ h
theorem lastR_lt {o : Ob} (v : VOb o) : ∀ {j k : Nat}, j < k → k < o.crels.length → (o.crels.getD j RT.rel.dflt).at_ < (o.crels.getD k RT.rel.dflt).at_
 | j, 0, h, _ => by omega
 | j, k + 1, h, hk => by
  obtain ⟨_, _, _, _, _, _, _, _, h1⟩ := v.crel hk _ rfl
  have e : lastR o.crels (k + 1) = (o.crels.getD k RT.rel.dflt).at_ := rfl
  rw [e] at h1
  by_cases e2 : j = k
  ·subst e2; exact h1
  ·have := lastR_lt v (show j < k by omega) (by omega); omega
theorem rel_inj {o : Ob} (v : VOb o) {j k : Nat} (hj : j < o.crels.length) (hk : k < o.crels.length) (h : (o.crels.getD j RT.rel.dflt).at_ = (o.crels.getD k RT.rel.dflt).at_) : j = k := by
 by_cases h1 : j < k
 ·have := lastR_lt v h1 hk; omega
 ·by_cases h2 : k < j
  ·have := lastR_lt v h2 hj; omega
  ·omega
theorem rG_at {l : List Ob} {g : Glb} (G : NmG l g) {o j : Nat} (ho : o < l.length) (hj : j < (obN l o).crels.length) : rH l o (relN l o j).at_ = true ∧ rG l o (relN l o j).at_ = relN l o j := by
 have h : rH l o (relN l o j).at_ = true := by
  unfold rH
  rw [Int.toNat_natCast, rsU_get l ho _ ho]
  exact rlP_in _ _ _ j hj rfl
 obtain ⟨k, hk, e1, e2⟩ := rH_is ho h
 have := rel_inj (G.val o ho) hk hj e1
 subst this
 exact ⟨h, e2⟩
def u32W (x : Int) : Int := IntKind.u32.wrap x
def wdR (l : List Ob) (o a : Int) : Bool := rH l o a && decide ((rG l o a).kind = 1)
def wdTo (l : List Ob) (g : Glb) (o a : Int) : Int × Int := realM l g o (rG l o a).sym
def wdV (l : List Ob) (g : Glb) (o a : Int) : Int := if wdR l o a = true then u32W (adrL l g (wdTo l g o a) + u32W (rG l o a).add) else (obN l o.toNat).code.getD a.toNat 0
def wdC (l : List Ob) (g : Glb) (o a : Int) : Bool := wdR l o a && decide ((symAt l (wdTo l g o a).1 (wdTo l g o a).2).in_ = 2)
def wdM (l : List Ob) (g : Glb) (o a : Int) (x : Img) : Img :=
 { x with code := x.code ++ [wdV l g o a], places := if wdC l g o a = true then x.places ++ [(x.code.length : Int)] else x.places }
def wdN (l : List Ob) (g : Glb) (o a : Int) (x : Img) : Nat → Img
 | 0 => x
 | i + 1 => wdM l g o (a + i) (wdN l g o a x i)
def itO (l : List Ob) (n : Nat) : Int × Int := (oOw l l.length).getD n (0, 0)
def itI (l : List Ob) (n : Nat) : In5 := insI (obN l (itO l n).1.toNat).code (obN l (itO l n).1.toNat).map (itO l n).2
def itTo (l : List Ob) (g : Glb) (n : Nat) : Int × Int := realM l g (itO l n).1 (rG l (itO l n).1 (itO l n).2).sym
def disp8 (z : Int) : Int := IntKind.u8.wrap z
def ptS (l : List Ob) (n : Nat) (x : Img) : Img := if (obN l (itO l n).1.toNat).map.getD (itO l n).2.toNat 0 = 1 then { x with starts := x.starts ++ [(x.code.length : Int)] } else x
def ptM (l : List Ob) (g : Glb) (n : Nat) (x : Img) : Img :=
 if itB (itF l g) n = false then wdN l g (itO l n).1 (itO l n).2 (ptS l n x) (itS (itF l g) n).toNat
 else if (loF l g).getD n false = true then
  { ptS l n x with code := (ptS l n x).code ++ [wordW ((itI l n).op - 16 + 19) (itI l n).a (itI l n).b 0 (adrL l g (itTo l g n)), adrL l g (itTo l g n)], places := (ptS l n x).places ++ [((ptS l n x).code.length : Int) + 1] }
 else { ptS l n x with code := (ptS l n x).code ++ [wordW (itI l n).op (itI l n).a (itI l n).b (disp8 (plN l g (itG (itF l g) n).toNat - plN l g n)) (itI l n).imm] }
theorem pix_inj {l : List Ob} {o w o' w' : Nat} (ho : o < l.length) (hw : w < (obN l o).map.length) (hm : (obN l o).map.getD w 0 ≠ 0) (ho' : o' < l.length) (hw' : w' < (obN l o').map.length) (hm' : (obN l o').map.getD w' 0 ≠ 0) (h : pix l o w = pix l o' w') : o = o' ∧ w = w' := by
 have e1 := oOw_get l (0, 0) hw hm l.length ho
 have e2 := oOw_get l (0, 0) hw' hm' l.length ho'
 rw [h, e2] at e1
 simp only [Prod.mk.injEq] at e1
 omega
theorem br_at {l : List Ob} {g : Glb} (G : NmG l g) {i j : Nat} (hi : i < l.length) (hj : j < (obN l i).crels.length) (h2 : (relN l i j).kind = 2) :
  ∃ w : Nat, (relN l i j).at_ = w ∧ w < (obN l i).map.length ∧ (obN l i).map.getD w 0 = 1 ∧ brP l i j = pix l i w ∧ insB (obN l i).code (obN l i).map w = true ∧ shortM (insI (obN l i).code (obN l i).map w).op = true ∧
   (syO l i (relN l i j).sym.toNat).in_ ≠ 1 ∧ (relN l i j).add = 0 := by
 have V := G.val i hi
 obtain ⟨c1, c2, c3, c4, c5, c6, c7, c8, _⟩ := V.crel hj _ rfl
 unfold shapeB at c8
 rw [if_pos h2] at c8
 simp only [Bool.and_eq_true, Bool.not_eq_true', decide_eq_false_iff_not, decide_eq_true_eq] at c8
 obtain ⟨⟨⟨d1, d2⟩, d3⟩, d4⟩ := c8
 obtain ⟨w, hw⟩ : ∃ w : Nat, (relN l i j).at_ = w := ⟨(relN l i j).at_.toNat, (Int.toNat_of_nonneg c1).symm⟩
 have hw' : (obN l i).crels.getD j RT.rel.dflt = relN l i j := rfl
 rw [hw', hw] at d1 d2 c2
 have hm := V.map
 have d1' := d1
 unfold insB at d1
 rw [Bool.and_eq_true] at d1
 have hb := d1.1
 unfold begM at hb
 simp only [Bool.not_eq_true', Bool.or_eq_false_iff, Bool.not_eq_false', decide_eq_true_eq, Int.toNat_natCast] at hb
 have hlt : w < (obN l i).map.length := by omega
 refine ⟨w, hw, hlt, hb.2, ?_, d1', d2, d3, d4⟩
 unfold brP
 rw [hw, im1_at hi hlt (by rw [hb.2]; decide)]; rfl
structure BrI (l : List Ob) (g : Glb) (i j : Nat) (its : List itT.ty) : Prop where
 is : ∀ o w : Nat, o < l.length → w < (obN l o).map.length → (obN l o).map.getD w 0 ≠ 0 → itB its (pix l o w) = true → ∃ k, k < (obN l o).crels.length ∧ (relN l o k).kind = 2 ∧ (relN l o k).at_ = w ∧ itG its (pix l o w) = aimV l g o k
 all : ∀ o k : Nat, o < l.length → k < (obN l o).crels.length → (o < i ∨ o = i ∧ k < j) → (relN l o k).kind = 2 → itB its (brP l o k) = true
theorem brS_inv {l : List Ob} {g : Glb} (G : NmG l g) {i j : Nat} (hi : i < l.length) (hj : j < (obN l i).crels.length) {its : List itT.ty} (hl : its.length = oBs l l.length) (h : BrI l g i j its) : BrI l g i (j + 1) (brS l g i j its) := by
 unfold brS
 by_cases h2 : (relN l i j).kind = 2
 ·rw [if_pos h2]
  obtain ⟨w0, hw0, hlt, hm0, hbp, _⟩ := br_at G hi hj h2
  have hm0' : (obN l i).map.getD w0 0 ≠ 0 := by rw [hm0]; decide
  have hpl := pix_lt (l := l) hi hlt hm0'
  refine ⟨fun o w ho hw hm hb => ?_, fun o k ho hk hok hk2 => ?_⟩
  ·by_cases e : brP l i j = pix l o w
   ·rw [hbp] at e
    obtain ⟨rfl, rfl⟩ := pix_inj hi hlt hm0' ho hw hm e
    refine ⟨j, hj, h2, hw0, ?_⟩
    unfold itG; rw [hbp, getD_set, if_pos ⟨rfl, by rw [hl]; exact hpl⟩]
   ·have e2 : ∀ d, (its.set (brP l i j) ((its.getD (brP l i j) itT.dflt).1, aimV l g i j, true)).getD (pix l o w) d = its.getD (pix l o w) d := fun d => by rw [getD_set, if_neg fun h => e h.1]
    unfold itB at hb
    rw [e2] at hb
    obtain ⟨k, h1, h3, h4, h5⟩ := h.is o w ho hw hm hb
    refine ⟨k, h1, h3, h4, ?_⟩
    unfold itG at h5 ⊢; rw [e2]; exact h5
  ·unfold itB
   rw [getD_set]
   by_cases e : brP l i j = brP l o k
   ·obtain ⟨w', _, hlt', hm', hbp', _⟩ := br_at G ho hk hk2
    rw [if_pos ⟨e, by rw [hl, hbp']; exact pix_lt ho hlt' (by rw [hm']; decide)⟩]
   ·rw [if_neg fun h => e h.1]
    refine h.all o k ho hk ?_ hk2
    rcases hok with h | ⟨rfl, h⟩
    ·exact .inl h
    ·by_cases e2 : k = j
     ·subst e2; exact absurd rfl e
     ·exact .inr ⟨rfl, by omega⟩
 ·rw [if_neg h2]
  refine ⟨h.is, fun o k ho hk hok hk2 => h.all o k ho hk ?_ hk2⟩
  rcases hok with h | ⟨rfl, h⟩
  ·exact .inl h
  ·by_cases e2 : k = j
   ·subst e2; exact absurd hk2 h2
   ·exact .inr ⟨rfl, by omega⟩
theorem brJ_inv {l : List Ob} {g : Glb} (G : NmG l g) {i : Nat} (hi : i < l.length) {its : List itT.ty} (hl : its.length = oBs l l.length) (h : BrI l g i 0 its) : ∀ j, j ≤ (obN l i).crels.length → BrI l g i j (brJ l g i its j)
 | 0, _ => h
 | j + 1, hj => brS_inv G hi (by omega) (by rw [brJ_len]; exact hl) (brJ_inv G hi hl h j (by omega))
theorem brO_inv {l : List Ob} {g : Glb} (G : NmG l g) : ∀ i, i ≤ l.length → BrI l g i 0 (brO l g i)
 | 0, _ => ⟨fun o w _ _ _ hb => (by rw [brO, (oIt_zero l _ _).2] at hb; cases hb), fun o k _ _ h => (by omega)⟩
 | i + 1, hi => by
  have h := brJ_inv G (by omega) (brO_len l g i) (brO_inv G i (by omega)) _ (Nat.le_refl (obN l i).crels.length)
  rw [brO]
  refine ⟨h.is, fun o k ho hk hok hk2 => h.all o k ho hk ?_ hk2⟩
  by_cases e : o = i
  ·subst e; exact .inr ⟨rfl, hk⟩
  ·exact .inl (by omega)
structure ItAt (l : List Ob) (n o w : Nat) : Prop where
 ho : o < l.length
 hw : w < (obN l o).map.length
 hm : (obN l o).map.getD w 0 ≠ 0
 hn : n = pix l o w
 own : itO l n = ((o : Int), (w : Int))
theorem itAt {l : List Ob} {n : Nat} (h : n < oBs l l.length) : ∃ o w, ItAt l n o w := by
 obtain ⟨o, w, h1, h2, h3, h4⟩ := pix_find l l.length n h
 exact ⟨o, w, h1, h2, h3, h4.symm, by unfold itO; rw [← h4]; exact oOw_get l _ h2 h3 _ h1⟩
theorem ItAt.br {l : List Ob} {g : Glb} (G : NmG l g) {n o w : Nat} (I : ItAt l n o w) (hb : itB (itF l g) n = true) :
  ∃ k, k < (obN l o).crels.length ∧ (relN l o k).kind = 2 ∧ (relN l o k).at_ = w ∧ itG (itF l g) n = aimV l g o k ∧ rG l o w = relN l o k ∧ (obN l o).map.getD w 0 = 1 ∧ insB (obN l o).code (obN l o).map w = true ∧ shortM (insI (obN l o).code (obN l o).map w).op = true := by
 have h := brO_inv G l.length (Nat.le_refl _)
 rw [I.hn] at hb
 obtain ⟨k, h1, h2, h3, h4⟩ := h.is o w I.ho I.hw I.hm hb
 obtain ⟨w', e1, e2, e3, e4, e5, e6, _⟩ := br_at G I.ho h1 h2
 have : w' = w := by rw [h3] at e1; omega
 subst this
 have := (rG_at G I.ho h1).2
 rw [h3] at this
 exact ⟨k, h1, h2, h3, by rw [I.hn]; exact h4, this, e3, e5, e6⟩
theorem short_op {op : Int} (h : shortM op = true) : op = 16 ∨ op = 17 ∨ op = 18 := by
 unfold shortM at h
 simp only [Bool.or_eq_true, decide_eq_true_eq] at h
 omega
theorem wdN_len (l : List Ob) (g : Glb) (o a : Int) (x : Img) : ∀ i, (wdN l g o a x i).code.length = x.code.length + i ∧ (wdN l g o a x i).places.length ≤ x.places.length + i ∧ (wdN l g o a x i).starts = x.starts ∧ (wdN l g o a x i).entry = x.entry ∧ (wdN l g o a x i).data = x.data ∧ (wdN l g o a x i).drefs = x.drefs
 | 0 => ⟨rfl, Nat.le_refl _, rfl, rfl, rfl, rfl⟩
 | i + 1 => by
  obtain ⟨h1, h2, h3, h4, h5, h6⟩ := wdN_len l g o a x i
  rw [wdN, wdM]
  refine ⟨?_, ?_, h3, h4, h5, h6⟩
  ·simp only [List.length_append, List.length_singleton]; omega
  ·simp only; split
   ·simp only [List.length_append, List.length_singleton]; omega
   ·omega
theorem ItAt.words {l : List Ob} {g : Glb} (G : NmG l g) {n o w : Nat} (I : ItAt l n o w) : itS (itF l g) n = szW (obN l o).code (obN l o).map w ∧ (w : Int) + itS (itF l g) n ≤ (obN l o).code.length := by
 have e : itS (itF l g) n = szW (obN l o).code (obN l o).map w := by
  rw [brO_size, I.hn]; unfold itS; rw [oIt_get l _ I.hw I.hm _ I.ho]
 have V := G.val o I.ho
 have hm := V.map
 have hw := I.hw
 refine ⟨e, ?_⟩
 rw [e]
 unfold szW
 split
 ·rename_i h
  have h0 := V.words w (by omega)
  unfold wordBE at h0
  unfold twoB at h
  rw [Bool.and_eq_true] at h
  have hb := h.1
  unfold insB at hb
  rw [Bool.and_eq_true] at hb
  have hb := hb.1
  unfold begM at hb
  simp only [Bool.not_eq_true', Bool.or_eq_false_iff, Bool.not_eq_false', decide_eq_true_eq, Int.toNat_natCast] at hb
  rw [Int.toNat_natCast, if_pos hb.2] at h0
  split at h0
  ·cases h0
  ·split at h0
   ·cases h0
   ·rename_i h1
    rw [h.2] at h1
    simp only [Bool.true_and, Bool.or_eq_true, decide_eq_true_eq, not_or] at h1
    omega
 ·omega
end Go.Proofs.YtacmmedhjebfjaaGreatDoor
set_option linter.unusedVariables false
set_option linter.unusedSimpArgs false
namespace Go.Proofs.YtacmmedhjebfjaaGreatDoor
open Go.RowKit Go.Sy Go.Fac
abbrev drlN (l : List Ob) (i j : Nat) : Rel := (obN l i).drels.getD j RT.rel.dflt
def dtS (l : List Ob) (g : Glb) (i j : Nat) (x : List Int × List Int) : List Int × List Int :=
  (x.1.set (oDn l i + (drlN l i j).at_).toNat (u32W (adrL l g (realM l g i (drlN l i j).sym) + u32W (drlN l i j).add)),
   if (symAt l (realM l g i (drlN l i j).sym).1 (realM l g i (drlN l i j).sym).2).in_ = 2 then x.2 ++ [oDn l i + (drlN l i j).at_] else x.2)
def dtJ (l : List Ob) (g : Glb) (i : Nat) (x : List Int × List Int) : Nat → List Int × List Int
  | 0 => x
  | j + 1 => dtS l g i j (dtJ l g i x j)
def dtO (l : List Ob) (g : Glb) : Nat → List Int × List Int
  | 0 => ([], [])
  | i + 1 => dtJ l g i ((dtO l g i).1 ++ (obN l i).data, (dtO l g i).2) (obN l i).drels.length
theorem dtJ_len (l : List Ob) (g : Glb) (i : Nat) (x : List Int × List Int) : ∀ j, (dtJ l g i x j).1.length = x.1.length ∧ (dtJ l g i x j).2.length ≤ x.2.length + j
  | 0 => ⟨rfl, Nat.le_refl _⟩
  | j + 1 => by
    obtain ⟨h1, h2⟩ := dtJ_len l g i x j
    rw [dtJ, dtS]
    refine ⟨by simp only [List.length_set]; exact h1, ?_⟩
    simp only; split
    · simp only [List.length_append, List.length_singleton]; omega
    · omega
theorem dtO_len (l : List Ob) (g : Glb) : ∀ i, ((dtO l g i).1.length : Int) = oDn l i
  | 0 => rfl
  | i + 1 => by
    have ih := dtO_len l g i
    rw [dtO, (dtJ_len ..).1, oDn]
    simp only [List.length_append]; omega
theorem dtO_ref {l : List Ob} {g : Glb} (G : NmG l g) : ∀ i, i ≤ l.length → (dtO l g i).2.length ≤ 1024 * i
  | 0, _ => Nat.le_refl _
  | i + 1, h => by
    have ih := dtO_ref G i (by omega)
    have h2 := (G.val i (by omega)).drels
    have h3 := (dtJ_len l g i ((dtO l g i).1 ++ (obN l i).data, (dtO l g i).2) (obN l i).drels.length).2
    rw [dtO]
    exact Nat.le_trans h3 (by simp only; omega)
def im0 (l : List Ob) (g : Glb) : Img := ⟨adrL l g (glG g mainT), (dtO l g l.length).1, [], (dtO l g l.length).2, [], []⟩
def ptN (l : List Ob) (g : Glb) : Nat → Img
  | 0 => im0 l g
  | n + 1 => ptM l g n (ptN l g n)
def imgM (l : List Ob) (g : Glb) : Img := ptN l g (itF l g).length
theorem ptM_len {l : List Ob} {g : Glb} (n : Nat) (x : Img) : (ptM l g n x).code.length ≤ x.code.length + 2 ∧ (ptM l g n x).places.length ≤ x.places.length + 2 ∧ (ptM l g n x).starts.length ≤ x.starts.length + 1 := by
  have hP : (ptS l n x).code = x.code ∧ (ptS l n x).places = x.places ∧ (ptS l n x).starts.length ≤ x.starts.length + 1 := by
    unfold ptS; split
    · exact ⟨rfl, rfl, by simp⟩
    · exact ⟨rfl, rfl, by omega⟩
  obtain ⟨p1, p2, p3⟩ := hP
  have z := itF_size0 l g n
  unfold ptM
  split
  · obtain ⟨w1, w2, w3, _⟩ := wdN_len l g (itO l n).1 (itO l n).2 (ptS l n x) (itS (itF l g) n).toNat
    rw [w1, w3, p1]
    rw [p2] at w2
    omega
  · split
    · simp only [p1, p2, List.length_append, List.length_cons, List.length_nil]; omega
    · simp only [p1, p2, List.length_append, List.length_singleton]; omega
theorem ptN_len (l : List Ob) (g : Glb) : ∀ n, (ptN l g n).code.length ≤ 2 * n ∧ (ptN l g n).places.length ≤ 2 * n ∧ (ptN l g n).starts.length ≤ n
  | 0 => ⟨Nat.le_refl _, Nat.le_refl _, Nat.le_refl _⟩
  | n + 1 => by
    have h := ptN_len l g n
    have h2 := ptM_len (l := l) (g := g) n (ptN l g n)
    rw [ptN]; omega
def laidE (l : List Ob) : FErr := if 16 < l.length then .bare 104 else if (namesE l).isErr = true then namesE l else layE l (nmG l)
def laidB (l : List Ob) : Bool := !(laidE l).isErr
theorem names_ok {l : List Ob} (hl : l.length ≤ 16) (h : (namesE l).isErr = false) : NmG l (nmG l) ∧ (∀ i, i < l.length → toO l (nmG l) i = false) ∧ noMain l (nmG l) = false := by
  unfold namesE at h
  by_cases h1 : (nmO l l.length).1.isErr = true
  · rw [if_pos h1] at h; rw [h] at h1; cases h1
  · rw [if_neg h1] at h
    have hf := fine_of (show (nmO l l.length).1.isErr = false by simpa using h1)
    by_cases h2 : idxM (noneO l (nmG l)) l.length ≠ l.length
    · rw [if_pos h2] at h; cases h
    · rw [if_neg h2] at h
      rw [Decidable.not_not] at h2
      by_cases h3 : idxM (toO l (nmG l)) l.length ≠ l.length
      · rw [if_pos h3] at h; cases h
      · rw [if_neg h3] at h
        rw [Decidable.not_not] at h3
        by_cases h4 : noMain l (nmG l) = true
        · rw [if_pos h4] at h; cases h
        · exact ⟨nmG_ok hl hf h2, idxM_all h3, by simpa using h4⟩
theorem laid_ok {l : List Ob} (h : (laidE l).isErr = false) : LkOk l (nmG l) ∧ (∀ i, i < l.length → toO l (nmG l) i = false) ∧ noMain l (nmG l) = false := by
  unfold laidE at h
  by_cases h1 : 16 < l.length
  · rw [if_pos h1] at h; cases h
  · rw [if_neg h1] at h
    by_cases h2 : (namesE l).isErr = true
    · rw [if_pos h2, h2] at h; cases h
    · rw [if_neg h2] at h
      obtain ⟨g1, g2, g3⟩ := names_ok (l := l) (by omega) (by simpa using h2)
      exact ⟨lkOk_of g1 h, g2, g3⟩
theorem main_own {l : List Ob} {g : Glb} (G : NmG l g) (h : noMain l g = false) : glH g mainT = true ∧ Own l (glG g mainT) ∧ (symAt l (glG g mainT).1 (glG g mainT).2).in_ = 2 := by
  unfold noMain at h
  simp only [Bool.or_eq_false_iff, Bool.not_eq_false', decide_eq_true_eq] at h
  obtain ⟨o, s, e, h1, h2, h3, h4⟩ := G.inv.fnd _ h.1
  exact ⟨h.1, ⟨o, s, e, by omega, h2, h4.2⟩, h.2⟩
def zImg : Img := ⟨0, [], [], [], [], []⟩
def linkI (l : List Ob) : Img := if (laidE l).isErr = true then zImg else imgM l (nmG l)
end Go.Proofs.YtacmmedhjebfjaaGreatDoor
set_option linter.unusedVariables false
set_option linter.unusedSimpArgs false
namespace Go.Proofs.YtacmmedhjebfjaaGreatDoor
open Go.RowKit Go.Sy Go.Fac
end Go.Proofs.YtacmmedhjebfjaaGreatDoor
set_option linter.unusedVariables false
set_option linter.unusedSimpArgs false
set_option linter.unusedSectionVars false
namespace Go.Proofs.YtacmmedhjebfjaaGreatDoor
open Go.RowKit Go.Sy Go.Fac
section
variable {ea : Ear} {has : Int → Prop} {rest : List (Nat × SVal)} [ht : Nonempty (EType ea)]
def kjumps0 : List SVal → Nat → Acc ORes := fun a n => match a with | [.any, .agg [.ro .u32 d, .ro .u32 c, .ro .u8 m, .ro .rel dr, .ro .rel cr, .ro .sym sy], .agg [.int .i64 a, .int .i64 k, .int .i64 s, .int .i64 x]] => .ret ({ v := .bool (.sym (jumpsB c m a.val k.val)), vc := some (0 ≤ a.val ∧ a.val < (m.length : Int) ∧ m.length ≤ 1000000) }) | _ => .fail "jumps0"
theorem argjumps0 (d c m : List Int) (dr cr : List Rel) (sy : List Sm) (a k s x : SI) : (all (subL tAtN none' [] deep [.any, .agg [.ro .u32 d, .ro .u32 c, .ro .u8 m, .ro .rel dr, .ro .rel cr, .ro .sym sy], .agg [.int .i64 a, .int .i64 k, .int .i64 s, .int .i64 x]] [.any, .agg [.ro .u32 d, .ro .u32 c, .ro .u8 m, .ro .rel dr, .ro .rel cr, .ro .sym sy], .agg [.int .i64 (.full a.val), .int .i64 (.full k.val), .int .i64 (.full s.val), .int .i64 (.full x.val)]])) = (
 d = d ∧ c = c ∧ m = m ∧ dr = dr ∧ cr = cr ∧ sy = sy ∧ SI.val a = SI.val a ∧ SI.val k = SI.val k ∧ SI.val s = SI.val s ∧ SI.val x = SI.val x) := by kernel_rfl
theorem runjumps0 (rest : List (Nat × SVal)) (d : List Int) (c : List Int) (m : List Int) (dr : List Rel) (cr : List Rel) (sy : List Sm) (a : Int) (k : Int) (s : Int) (x : Int) : (Tr.sat (plainQ (.bool (.sym (jumpsB c m a k)))) (run (env (G7 ++ rest) [(43, kInstr), (44, kTables), (61, kiJumps)]) [] (bodyOf Tryz.f42) (start [.any, .agg [.ro .u32 d, .ro .u32 c, .ro .u8 m, .ro .rel dr, .ro .rel cr, .ro .sym sy], .agg [.int .i64 (.full a), .int .i64 (.full k), .int .i64 (.full s), .int .i64 (.full x)]] 36) (ends (env (G7 ++ rest) [(43, kInstr), (44, kTables), (61, kiJumps)]) Tryz.f42.results.toList))) = (
 IT (decide (k = 2)) (true = jumpsB c m a k) (RQ (insB c m (IntKind.wrap IntKind.i64 (a - 1)) = true → 0 ≤ a ∧ a < (↑(List.length m) : Int)) ((insB c m (IntKind.wrap IntKind.i64 (a - 1)) && decide (List.getD m (Int.toNat a) (RT.dflt RT.u8) = 0) && isaJumps (insI c m (IntKind.wrap IntKind.i64 (a - 1))).op) = jumpsB c m a k))) := by kernel_rfl
set_option maxHeartbeats 4000000 in
theorem cjumps0 : Con ea has (G7 ++ rest) 42 kjumps0 := by
 refine plain_mkB Tryz.func42 36 (con := [(43, kInstr), (44, kTables), (61, kiJumps)]) ⟨cInstr, cTables, ciJumps, trivial⟩ (fun hA hr hv => ?_) (by kernel_rfl) (by kernel_rfl) Tryz.ntmps42
 unfold kjumps0 at hr; split at hr
 ·rename_i d c m dr cr sy a k s x
  have := ret_ok hr; subst this
  replace hv := hv _ rfl
  refine ⟨_, [], rfl, rfl, .of (argjumps0 d c m dr cr sy a k s x) (by simp), rfl, (fun W R ρ0 own0 hown => noSums (by kernel_rfl)), .of (runjumps0 rest d c m dr cr sy a.val k.val s.val x.val) ?_⟩
  delta RQ IT
  clear hr
  clear hA
  generalize a.val = a at *
  generalize k.val = k at *
  obtain ⟨v1, v2, v3⟩ := hv
  have w : IntKind.i64.wrap (a - 1) = a - 1 := by rw [IntKind.wrap_i64]; omega
  have d1 : RT.u8.dflt = (0 : Int) := rfl
  rw [w, d1]
  refine ⟨fun h => by rw [jumpsB, if_pos (of_decide_eq_true h)], fun h => ⟨fun _ => ⟨v1, v2⟩, fun _ => by rw [jumpsB, if_neg (of_decide_eq_false h)]⟩⟩
 ·cases hr
abbrev kjumps := borN [.drop, .any, .any] kjumps0
theorem cjumps : Con ea has (G7 ++ rest) 42 kjumps := borN_ok cjumps0 _
abbrev kkreal := borN [.box [.ro .obj, .rom .str (.flat (.int .i64) [.int .i64]), .drop, .drop, .drop, .drop, .drop, .drop], .any, .any] kkreal0
theorem ckreal : Con ea has (G7 ++ rest) 34 kkreal := borN_ok ckreal0 _
abbrev nmBox (l : List Ob) : Cont := .cells [.ro .obj l, .map 1, .nilslice, .nilslice, .nilslice, .nilslice, .nilslice, .nilslice]
def HnmI (l : List Ob) (ii : Nat) (i : Nat) : SState := { fr := [(0, .ptr 0 0), (3, .int .i64 (.sym ii 0 1000000)), (29, .ro .obj l), (30, .int .i64 (.full l.length)), (31, .int .i64 (.sym ii 0 1000000)), (44, .ro .sym (obN l ii).syms), (45, .int .i64 (.full (obN l ii).syms.length)), (46, .int .i64 (.sym i 0 1000000))], hp := [(0, some (nmBox l)), (1, some (.gmap .str spT (nmS ii (obN l ii).syms (nmO l ii).2 i).2))], next := 2, sz := 184 }
def XnmI (l : List Ob) (ii : Nat) : SState := { fr := [(0, .ptr 0 0), (29, .ro .obj l), (30, .int .i64 (.full l.length)), (31, .int .i64 (.sym ii 0 1000000))], hp := [(0, some (nmBox l)), (1, some (.gmap .str spT (nmS ii (obN l ii).syms (nmO l ii).2 (obN l ii).syms.length).2))], next := 2, sz := 184 }
def YnmI (l : List Ob) (ii : Nat) : SState := { fr := [(2, .err (nmS ii (obN l ii).syms (nmO l ii).2 (obN l ii).syms.length).1)], hp := [(0, some (nmBox l)), (1, some (.gmap .str spT (nmS ii (obN l ii).syms (nmO l ii).2 (obN l ii).syms.length).2))], next := 2, sz := 184 }
def LnmI (l : List Ob) (ii : Nat) : LSum := ⟨HnmI l ii 0, fun k => .ite (!(nmS ii (obN l ii).syms (nmO l ii).2 (obN l ii).syms.length).1.isErr) (k (.exit 2) (XnmI l ii)) (k .ret (YnmI l ii)), (obN l ii).syms.length ≤ 1000000 ∧ ii ≤ 1000000⟩
theorem bnmI (rest : List (Nat × SVal)) (l : List Ob) (ii : Nat) (i : Nat) : (Tr.sat (rnd2 (envK (G7 ++ rest) [(39, kValidB), (41, kinside), (42, kjumps), (34, kkreal), (35, kksym)] 1) (fun i => (nmS ii (obN l ii).syms (nmO l ii).2 i).1 = .fine) ((obN l ii).syms.length) (HnmI l ii) 2 (!(nmS ii (obN l ii).syms (nmO l ii).2 (obN l ii).syms.length).1.isErr) (XnmI l ii) (YnmI l ii) i) (run (envK (G7 ++ rest) [(39, kValidB), (41, kinside), (42, kjumps), (34, kkreal), (35, kksym)] 1) [] (loopN (loopN (bodyOf Tryz.f31) 0) 0) (HnmI l ii i) .leaf)) = (
 IT (decide ((↑i : Int) < (↑(List.length (obN l ii).syms) : Int))) (RQ (0 ≤ (↑i : Int) ∧ (↑i : Int) < (↑(List.length (obN l ii).syms) : Int)) (IT (!(List.getD (obN l ii).syms (Int.toNat (↑i : Int)) (RT.dflt RT.sym)).global || decide ((List.getD (obN l ii).syms (Int.toNat (↑i : Int)) (RT.dflt RT.sym)).in_ = 3)) (i < List.length (obN l ii).syms ∧ (nmS (↑ii : Int) (obN l ii).syms (nmO l ii).snd (i + 1)).fst = FErr.fine ∧ (↑ii : Int) = (↑ii : Int) ∧ l = l ∧ (↑(List.length l) : Int) = (↑(List.length l) : Int) ∧ (↑ii : Int) = (↑ii : Int) ∧ (obN l ii).syms = (obN l ii).syms ∧ (↑(List.length (obN l ii).syms) : Int) = (↑(List.length (obN l ii).syms) : Int) ∧ (↑i : Int) + 1 = (↑(i + 1) : Int) ∧ (0 ≤ (↑(i + 1) : Int) ∧ (↑(i + 1) : Int) ≤ 1000000) ∧ l = l ∧ some (nmS (↑ii : Int) (obN l ii).syms (nmO l ii).snd i).snd = some (nmS (↑ii : Int) (obN l ii).syms (nmO l ii).snd (i + 1)).snd) (IT (gHas (nmS (↑ii : Int) (obN l ii).syms (nmO l ii).snd i).snd (List.getD (obN l ii).syms (Int.toNat (↑i : Int)) (RT.dflt RT.sym)).name) ((!FErr.isErr (nmS (↑ii : Int) (obN l ii).syms (nmO l ii).snd (List.length (obN l ii).syms)).fst) = false ∧ (nmS (↑ii : Int) (obN l ii).syms (nmO l ii).snd (List.length (obN l ii).syms)).fst = FErr.placed (106 : Int) (↑ii : Int) ∧ FErr.isErr (FErr.bare (106 : Int)) = true ∧ FErr.isPlaced (FErr.bare (106 : Int)) = false ∧ l = l ∧ some (nmS (↑ii : Int) (obN l ii).syms (nmO l ii).snd i).snd = some (nmS (↑ii : Int) (obN l ii).syms (nmO l ii).snd (List.length (obN l ii).syms)).snd) (i < List.length (obN l ii).syms ∧ (nmS (↑ii : Int) (obN l ii).syms (nmO l ii).snd (i + 1)).fst = FErr.fine ∧ (↑ii : Int) = (↑ii : Int) ∧ l = l ∧ (↑(List.length l) : Int) = (↑(List.length l) : Int) ∧ (↑ii : Int) = (↑ii : Int) ∧ (obN l ii).syms = (obN l ii).syms ∧ (↑(List.length (obN l ii).syms) : Int) = (↑(List.length (obN l ii).syms) : Int) ∧ (↑i : Int) + 1 = (↑(i + 1) : Int) ∧ (0 ≤ (↑(i + 1) : Int) ∧ (↑(i + 1) : Int) ≤ 1000000) ∧ l = l ∧ some (gPut (nmS (↑ii : Int) (obN l ii).syms (nmO l ii).snd i).snd (List.getD (obN l ii).syms (Int.toNat (↑i : Int)) (RT.dflt RT.sym)).name ((↑ii : Int), (↑i : Int))) = some (nmS (↑ii : Int) (obN l ii).syms (nmO l ii).snd (i + 1)).snd)))) (Nat.beq (2 : Nat) (2 : Nat) = true ∧ (!FErr.isErr (nmS (↑ii : Int) (obN l ii).syms (nmO l ii).snd (List.length (obN l ii).syms)).fst) = true ∧ l = l ∧ (↑(List.length l) : Int) = (↑(List.length l) : Int) ∧ (↑ii : Int) = (↑ii : Int) ∧ l = l ∧ some (nmS (↑ii : Int) (obN l ii).syms (nmO l ii).snd i).snd = some (nmS (↑ii : Int) (obN l ii).syms (nmO l ii).snd (List.length (obN l ii).syms)).snd)) := by kernel_rfl
set_option maxHeartbeats 4000000 in
theorem lnmI (l : List Ob) (ii : Nat) {W : World} {R own0 : Nat → Prop} {ρ0 : Nat → Option Value} (hown : HownOk (envK (G7 ++ rest) [(39, kValidB), (41, kinside), (42, kjumps), (34, kkreal), (35, kksym)] 1) own0 ρ0) : LOk Tryz.prog (envK (G7 ++ rest) [(39, kValidB), (41, kinside), (42, kjumps), (34, kkreal), (35, kksym)] 1) (ctx ea has) (G7 ++ rest) W R own0 ρ0 (loopN (loopN (bodyOf Tryz.f31) 0) 0) (LnmI l ii) := by
 refine loop2_ok (J := fun i => (nmS ii (obN l ii).syms (nmO l ii).2 i).1 = .fine) (N := (obN l ii).syms.length) (H := HnmI l ii) (X := XnmI l ii) (Y := YnmI l ii) (envK_ok (con := [(39, kValidB), (41, kinside), (42, kjumps), (34, kkreal), (35, kksym)]) ⟨cValidB, cinside, cjumps, ckreal, cksym, trivial⟩) hown (ls := fun i => []) (fun i => noSums (by kernel_rfl)) (fun hm i hi hj => ?_) 0 (fun hm => by first | exact Nat.zero_le _ | omega) (fun hm => rfl)
 rw [bnmI rest l ii i]
 delta RQ IT
 simp only [Int.toNat_natCast, eq_self, true_and, and_true]
 obtain ⟨h1, h2⟩ := hm
 have hs : nmS ii (obN l ii).syms (nmO l ii).2 (i + 1) = nmStep ii i ((obN l ii).syms.getD i RT.sym.dflt) (nmS ii (obN l ii).syms (nmO l ii).2 i).2 := by rw [nmS, if_neg (by rw [hj]; simp [FErr.isErr])]
 have st := fun h hn => nmS_stay ii (obN l ii).syms (nmO l ii).2 (j := i + 1) h (obN l ii).syms.length hn
 have ex : expB ((obN l ii).syms.getD i RT.sym.dflt) = !(!((obN l ii).syms.getD i RT.sym.dflt).global || decide (((obN l ii).syms.getD i RT.sym.dflt).in_ = 3)) := by unfold expB; simp only [Bool.not_or, Bool.not_not]
 refine ⟨fun h => ?_, fun h => ?_⟩
 ·have h := of_decide_eq_true h
  have hlt : i < (obN l ii).syms.length := by omega
  refine ⟨by omega, fun _ => ⟨fun g1 => ?_, fun g1 => ⟨fun g2 => ?_, fun g2 => ?_⟩⟩⟩
  ·rw [g1] at ex; replace ex := ex.trans (show (!true) = false from rfl)
   rw [nmStep, if_pos ex] at hs
   rw [hs]; exact ⟨hlt, rfl, by omega, by omega, rfl⟩
  ·rw [g1] at ex; replace ex := ex.trans (show (!false) = true from rfl)
   rw [nmStep, if_neg (by rw [ex]; simp), if_pos (show glH _ _ = true from g2)] at hs
   have e := st (by rw [hs]; rfl) (by omega)
   rw [e, hs]; exact ⟨rfl, rfl, rfl, rfl, rfl⟩
  ·rw [g1] at ex; replace ex := ex.trans (show (!false) = true from rfl)
   rw [nmStep, if_neg (by rw [ex]; simp), if_neg (show ¬ glH _ _ = true by rw [show glH _ _ = false from g2]; simp)] at hs
   rw [hs]; exact ⟨hlt, rfl, by omega, by omega, rfl⟩
 ·have h := of_decide_eq_false h
  have : i = (obN l ii).syms.length := by omega
  rw [← this, hj]
  exact ⟨rfl, rfl, rfl⟩
def HnmA (l : List Ob) (i : Nat) : SState := { fr := [(0, .ptr 0 0), (29, .ro .obj l), (30, .int .i64 (.full l.length)), (31, .int .i64 (.sym i 0 1000000))], hp := [(0, some (nmBox l)), (1, some (.gmap .str spT (nmO l i).2))], next := 2, sz := 184 }
def XnmA (l : List Ob) : SState := { fr := [(0, .ptr 0 0)], hp := [(0, some (nmBox l)), (1, some (.gmap .str spT (nmO l l.length).2))], next := 2, sz := 184 }
def YnmA (l : List Ob) : SState := { fr := [(2, .err (nmO l l.length).1)], hp := [(0, some (nmBox l)), (1, some (.gmap .str spT (nmO l l.length).2))], next := 2, sz := 184 }
def LnmA (l : List Ob) : LSum := ⟨HnmA l 0, fun k => .ite (!(nmO l l.length).1.isErr) (k (.exit 0) (XnmA l)) (k .ret (YnmA l)), l.length ≤ 16⟩
theorem bnmA (rest : List (Nat × SVal)) (l : List Ob) (i : Nat) : (Tr.sat (rnd2 (envK (G7 ++ rest) [(39, kValidB), (41, kinside), (42, kjumps), (34, kkreal), (35, kksym)] 1) (fun i => (nmO l i).1 = .fine) (l.length) (HnmA l) 0 (!(nmO l l.length).1.isErr) (XnmA l) (YnmA l) i) (run (envK (G7 ++ rest) [(39, kValidB), (41, kinside), (42, kjumps), (34, kkreal), (35, kksym)] 1) [(9, LnmI l i)] (loopN (bodyOf Tryz.f31) 0) (HnmA l i) .leaf)) = (
 IT (decide ((↑i : Int) < (↑(List.length l) : Int))) (RQ (0 ≤ (↑i : Int) ∧ (↑i : Int) < (↑(List.length l) : Int)) (IT (!!FErr.isErr (validBE (List.getD l (Int.toNat (↑i : Int)) (RT.dflt RT.obj)).data (List.getD l (Int.toNat (↑i : Int)) (RT.dflt RT.obj)).code (List.getD l (Int.toNat (↑i : Int)) (RT.dflt RT.obj)).map (List.getD l (Int.toNat (↑i : Int)) (RT.dflt RT.obj)).drels (List.getD l (Int.toNat (↑i : Int)) (RT.dflt RT.obj)).crels (List.getD l (Int.toNat (↑i : Int)) (RT.dflt RT.obj)).syms)) (RQ (FErr.isErr (validBE (List.getD l (Int.toNat (↑i : Int)) (RT.dflt RT.obj)).data (List.getD l (Int.toNat (↑i : Int)) (RT.dflt RT.obj)).code (List.getD l (Int.toNat (↑i : Int)) (RT.dflt RT.obj)).map (List.getD l (Int.toNat (↑i : Int)) (RT.dflt RT.obj)).drels (List.getD l (Int.toNat (↑i : Int)) (RT.dflt RT.obj)).crels (List.getD l (Int.toNat (↑i : Int)) (RT.dflt RT.obj)).syms) = true) ((!FErr.isErr (nmO l (List.length l)).fst) = false ∧ insE (validBE (List.getD l (Int.toNat (↑i : Int)) (RT.dflt RT.obj)).data (List.getD l (Int.toNat (↑i : Int)) (RT.dflt RT.obj)).code (List.getD l (Int.toNat (↑i : Int)) (RT.dflt RT.obj)).map (List.getD l (Int.toNat (↑i : Int)) (RT.dflt RT.obj)).drels (List.getD l (Int.toNat (↑i : Int)) (RT.dflt RT.obj)).crels (List.getD l (Int.toNat (↑i : Int)) (RT.dflt RT.obj)).syms) (↑i : Int) = (nmO l (List.length l)).fst ∧ l = l ∧ some (nmO l i).snd = some (nmO l (List.length l)).snd)) (RQ ((List.length (obN l i).syms ≤ 1000000 ∧ i ≤ 1000000) ∧ (↑i : Int) = (↑i : Int) ∧ l = l ∧ (↑(List.length l) : Int) = (↑(List.length l) : Int) ∧ (↑i : Int) = (↑i : Int) ∧ (List.getD l (Int.toNat (↑i : Int)) (RT.dflt RT.obj)).syms = (obN l i).syms ∧ (↑(List.length (List.getD l (Int.toNat (↑i : Int)) (RT.dflt RT.obj)).syms) : Int) = (↑(List.length (obN l i).syms) : Int) ∧ (0 : Int) = (↑(0 : Nat) : Int) ∧ l = l ∧ some (nmO l i).snd = some (nmS (↑i : Int) (obN l i).syms (nmO l i).snd (0 : Nat)).snd) (IT (!FErr.isErr (nmS (↑i : Int) (obN l i).syms (nmO l i).snd (List.length (obN l i).syms)).fst) (i < List.length l ∧ (nmO l (i + 1)).fst = FErr.fine ∧ l = l ∧ (↑(List.length l) : Int) = (↑(List.length l) : Int) ∧ (↑i : Int) + 1 = (↑(i + 1) : Int) ∧ (0 ≤ (↑(i + 1) : Int) ∧ (↑(i + 1) : Int) ≤ 1000000) ∧ l = l ∧ some (nmS (↑i : Int) (obN l i).syms (nmO l i).snd (List.length (obN l i).syms)).snd = some (nmO l (i + 1)).snd) ((!FErr.isErr (nmO l (List.length l)).fst) = false ∧ (nmS (↑i : Int) (obN l i).syms (nmO l i).snd (List.length (obN l i).syms)).fst = (nmO l (List.length l)).fst ∧ l = l ∧ some (nmS (↑i : Int) (obN l i).syms (nmO l i).snd (List.length (obN l i).syms)).snd = some (nmO l (List.length l)).snd))))) (Nat.beq (0 : Nat) (0 : Nat) = true ∧ (!FErr.isErr (nmO l (List.length l)).fst) = true ∧ l = l ∧ some (nmO l i).snd = some (nmO l (List.length l)).snd)) := by kernel_rfl
set_option maxHeartbeats 4000000 in
theorem lnmA (l : List Ob) {W : World} {R own0 : Nat → Prop} {ρ0 : Nat → Option Value} (hown : HownOk (envK (G7 ++ rest) [(39, kValidB), (41, kinside), (42, kjumps), (34, kkreal), (35, kksym)] 1) own0 ρ0) : LOk Tryz.prog (envK (G7 ++ rest) [(39, kValidB), (41, kinside), (42, kjumps), (34, kkreal), (35, kksym)] 1) (ctx ea has) (G7 ++ rest) W R own0 ρ0 (loopN (bodyOf Tryz.f31) 0) (LnmA l) := by
 refine loop2_ok (J := fun i => (nmO l i).1 = .fine) (N := l.length) (H := HnmA l) (X := XnmA l) (Y := YnmA l) (envK_ok (con := [(39, kValidB), (41, kinside), (42, kjumps), (34, kkreal), (35, kksym)]) ⟨cValidB, cinside, cjumps, ckreal, cksym, trivial⟩) hown (ls := fun i => [(9, LnmI l i)]) (fun i => hl1 (by kernel_rfl) (by kernel_rfl) (lnmI l i hown)) (fun hm i hi hj => ?_) 0 (fun hm => by first | exact Nat.zero_le _ | omega) (fun hm => rfl)
 rw [bnmA rest l i]
 delta RQ IT
 simp only [Int.toNat_natCast, eq_self, true_and, and_true]
 have hs : nmO l (i + 1) = _ := nmO.eq_2 l i
 rw [if_neg (by rw [hj]; simp [FErr.isErr])] at hs
 have st := fun h hn => nmO_stay l (j := i + 1) h l.length hn
 have eV : validBE (l.getD i RT.obj.dflt).data (l.getD i RT.obj.dflt).code (l.getD i RT.obj.dflt).map (l.getD i RT.obj.dflt).drels (l.getD i RT.obj.dflt).crels (l.getD i RT.obj.dflt).syms = vBE (obN l i) := rfl
 rw [eV]
 have hsz : (vBE (obN l i)).isErr = false → (obN l i).syms.length ≤ 1000000 := fun h => by have := (vOb h).syms; omega
 have np : ∀ e : FErr, e.isErr = true → (insE e i).isErr = true := fun e h => by cases e <;> simp [insE, FErr.isErr] at h ⊢
 refine ⟨fun h => ?_, fun h => ?_⟩
 ·have h := of_decide_eq_true h
  have hlt : i < l.length := by omega
  refine ⟨by omega, fun _ => ⟨fun g1 => ?_, fun g1 => ?_⟩⟩
  ·have g1 : (vBE (obN l i)).isErr = true := by simpa using g1
   rw [if_pos g1] at hs
   have e := st (by rw [hs]; exact np _ g1) (by omega)
   rw [e, hs]
   refine ⟨g1, fun _ => ⟨by rw [np _ g1]; rfl, rfl, rfl⟩⟩
  ·have g1 : (vBE (obN l i)).isErr = false := by simpa using g1
   rw [if_neg (by rw [g1]; simp)] at hs
   have h1 := hsz g1
   refine ⟨⟨⟨h1, by omega⟩, rfl, rfl⟩, fun _ => ⟨fun g2 => ?_, fun g2 => ?_⟩⟩
   ·have g2 : (nmS i (obN l i).syms (nmO l i).2 (obN l i).syms.length).1.isErr = false := by simpa using g2
    rw [hs]
    exact ⟨hlt, fine_of g2, by omega, by omega, rfl⟩
   ·have g2 : (nmS i (obN l i).syms (nmO l i).2 (obN l i).syms.length).1.isErr = true := by simpa using g2
    have e := st (by rw [hs]; exact g2) (by omega)
    rw [e, hs, g2]
    exact ⟨rfl, rfl, rfl⟩
 ·have h := of_decide_eq_false h
  have : i = l.length := by omega
  rw [← this, hj]
  exact ⟨rfl, rfl, rfl⟩
def HnmJ (l : List Ob) (g : Glb) (ii : Nat) (i : Nat) : SState := { fr := [(0, .ptr 0 0), (10, .int .i64 (.sym ii 0 1000000)), (89, .ro .obj l), (90, .int .i64 (.full l.length)), (91, .int .i64 (.sym ii 0 1000000)), (97, .ro .sym (obN l ii).syms), (98, .int .i64 (.full (obN l ii).syms.length)), (99, .int .i64 (.sym i 0 1000000))], hp := [(0, some (nmBox l)), (1, some (.gmap .str spT g))], next := 2, sz := 184 }
def XnmJ (l : List Ob) (g : Glb) (ii : Nat) : SState := { fr := [(0, .ptr 0 0), (89, .ro .obj l), (90, .int .i64 (.full l.length)), (91, .int .i64 (.sym ii 0 1000000))], hp := [(0, some (nmBox l)), (1, some (.gmap .str spT g))], next := 2, sz := 184 }
def YnmJ (l : List Ob) (g : Glb) (ii : Nat) : SState := { fr := [(2, .err (.placed 107 ii))], hp := [(0, some (nmBox l)), (1, some (.gmap .str spT g))], next := 2, sz := 184 }
def LnmJ (l : List Ob) (g : Glb) (ii : Nat) : LSum := ⟨HnmJ l g ii 0, fun k => .ite (decide (idxM (noneB l g ii) (obN l ii).syms.length = (obN l ii).syms.length)) (k (.exit 6) (XnmJ l g ii)) (k .ret (YnmJ l g ii)), (obN l ii).syms.length ≤ 1000000 ∧ ii ≤ 1000000⟩
theorem bnmJ (rest : List (Nat × SVal)) (l : List Ob) (g : Glb) (ii : Nat) (i : Nat) : (Tr.sat (rnd2 (envK (G7 ++ rest) [(39, kValidB), (41, kinside), (42, kjumps), (34, kkreal), (35, kksym)] 1) (fun i => idxM (noneB l g ii) i = i) ((obN l ii).syms.length) (HnmJ l g ii) 6 (decide (idxM (noneB l g ii) (obN l ii).syms.length = (obN l ii).syms.length)) (XnmJ l g ii) (YnmJ l g ii) i) (run (envK (G7 ++ rest) [(39, kValidB), (41, kinside), (42, kjumps), (34, kkreal), (35, kksym)] 1) [] (loopN (loopN (bodyOf Tryz.f31) 1) 0) (HnmJ l g ii i) .leaf)) = (
 IT (decide ((↑i : Int) < (↑(List.length (obN l ii).syms) : Int))) (RQ (0 ≤ (↑i : Int) ∧ (↑i : Int) < (↑(List.length (obN l ii).syms) : Int)) (IT (decide ((List.getD (obN l ii).syms (Int.toNat (↑i : Int)) (RT.dflt RT.sym)).in_ = 3) && !gHas g (List.getD (obN l ii).syms (Int.toNat (↑i : Int)) (RT.dflt RT.sym)).name) (decide (idxM (noneB l g ii) (List.length (obN l ii).syms) = List.length (obN l ii).syms) = false ∧ FErr.placed (107 : Int) (↑ii : Int) = FErr.placed (107 : Int) (↑ii : Int) ∧ FErr.isErr (FErr.bare (107 : Int)) = true ∧ FErr.isPlaced (FErr.bare (107 : Int)) = false ∧ l = l ∧ some g = some g) (i < List.length (obN l ii).syms ∧ idxM (noneB l g ii) (i + 1) = i + 1 ∧ (↑ii : Int) = (↑ii : Int) ∧ l = l ∧ (↑(List.length l) : Int) = (↑(List.length l) : Int) ∧ (↑ii : Int) = (↑ii : Int) ∧ (obN l ii).syms = (obN l ii).syms ∧ (↑(List.length (obN l ii).syms) : Int) = (↑(List.length (obN l ii).syms) : Int) ∧ (↑i : Int) + 1 = (↑(i + 1) : Int) ∧ (0 ≤ (↑(i + 1) : Int) ∧ (↑(i + 1) : Int) ≤ 1000000) ∧ l = l ∧ some g = some g))) (Nat.beq (6 : Nat) (6 : Nat) = true ∧ decide (idxM (noneB l g ii) (List.length (obN l ii).syms) = List.length (obN l ii).syms) = true ∧ l = l ∧ (↑(List.length l) : Int) = (↑(List.length l) : Int) ∧ (↑ii : Int) = (↑ii : Int) ∧ l = l ∧ some g = some g)) := by kernel_rfl
set_option maxHeartbeats 4000000 in
theorem lnmJ (l : List Ob) (g : Glb) (ii : Nat) {W : World} {R own0 : Nat → Prop} {ρ0 : Nat → Option Value} (hown : HownOk (envK (G7 ++ rest) [(39, kValidB), (41, kinside), (42, kjumps), (34, kkreal), (35, kksym)] 1) own0 ρ0) : LOk Tryz.prog (envK (G7 ++ rest) [(39, kValidB), (41, kinside), (42, kjumps), (34, kkreal), (35, kksym)] 1) (ctx ea has) (G7 ++ rest) W R own0 ρ0 (loopN (loopN (bodyOf Tryz.f31) 1) 0) (LnmJ l g ii) := by
 refine loop2_ok (J := fun i => idxM (noneB l g ii) i = i) (N := (obN l ii).syms.length) (H := HnmJ l g ii) (X := XnmJ l g ii) (Y := YnmJ l g ii) (envK_ok (con := [(39, kValidB), (41, kinside), (42, kjumps), (34, kkreal), (35, kksym)]) ⟨cValidB, cinside, cjumps, ckreal, cksym, trivial⟩) hown (ls := fun i => []) (fun i => noSums (by kernel_rfl)) (fun hm i hi hj => ?_) 0 (fun hm => by first | exact Nat.zero_le _ | omega) (fun hm => rfl)
 rw [bnmJ rest l g ii i]
 delta RQ IT
 simp only [Int.toNat_natCast, eq_self, true_and, and_true]
 refine ⟨fun h => ?_, fun h => ?_⟩
 ·have h := of_decide_eq_true h
  have hlt : i < (obN l ii).syms.length := by omega
  refine ⟨by omega, fun _ => ⟨fun g1 => ?_, fun g1 => ?_⟩⟩
  ·have e := idxM_hit (n := (obN l ii).syms.length) hj (show noneB l g ii i = true from g1) hlt
   exact ⟨by rw [e]; exact decide_eq_false (by omega), rfl, rfl⟩
  ·exact ⟨hlt, idxM_step hj (show noneB l g ii i = false from g1), by omega, by omega⟩
 ·have h := of_decide_eq_false h
  have : i = (obN l ii).syms.length := by omega
  exact ⟨rfl, by rw [← this]; exact decide_eq_true hj⟩
def HnmB (l : List Ob) (g : Glb) (i : Nat) : SState := { fr := [(0, .ptr 0 0), (89, .ro .obj l), (90, .int .i64 (.full l.length)), (91, .int .i64 (.sym i 0 1000000))], hp := [(0, some (nmBox l)), (1, some (.gmap .str spT g))], next := 2, sz := 184 }
def XnmB (l : List Ob) (g : Glb) : SState := { fr := [(0, .ptr 0 0)], hp := [(0, some (nmBox l)), (1, some (.gmap .str spT g))], next := 2, sz := 184 }
def YnmB (l : List Ob) (g : Glb) : SState := { fr := [(2, .err (.placed 107 (idxM (noneO l g) l.length)))], hp := [(0, some (nmBox l)), (1, some (.gmap .str spT g))], next := 2, sz := 184 }
def LnmB (l : List Ob) (g : Glb) : LSum := ⟨HnmB l g 0, fun k => .ite (decide (idxM (noneO l g) l.length = l.length)) (k (.exit 4) (XnmB l g)) (k .ret (YnmB l g)), l.length ≤ 16 ∧ ∀ i, i < l.length → (obN l i).syms.length ≤ 1000000⟩
theorem bnmB (rest : List (Nat × SVal)) (l : List Ob) (g : Glb) (i : Nat) : (Tr.sat (rnd2 (envK (G7 ++ rest) [(39, kValidB), (41, kinside), (42, kjumps), (34, kkreal), (35, kksym)] 1) (fun i => idxM (noneO l g) i = i) (l.length) (HnmB l g) 4 (decide (idxM (noneO l g) l.length = l.length)) (XnmB l g) (YnmB l g) i) (run (envK (G7 ++ rest) [(39, kValidB), (41, kinside), (42, kjumps), (34, kkreal), (35, kksym)] 1) [(22, LnmJ l g i)] (loopN (bodyOf Tryz.f31) 1) (HnmB l g i) .leaf)) = (
 IT (decide ((↑i : Int) < (↑(List.length l) : Int))) (RQ (0 ≤ (↑i : Int) ∧ (↑i : Int) < (↑(List.length l) : Int)) (RQ ((List.length (obN l i).syms ≤ 1000000 ∧ i ≤ 1000000) ∧ (↑i : Int) = (↑i : Int) ∧ l = l ∧ (↑(List.length l) : Int) = (↑(List.length l) : Int) ∧ (↑i : Int) = (↑i : Int) ∧ (List.getD l (Int.toNat (↑i : Int)) (RT.dflt RT.obj)).syms = (obN l i).syms ∧ (↑(List.length (List.getD l (Int.toNat (↑i : Int)) (RT.dflt RT.obj)).syms) : Int) = (↑(List.length (obN l i).syms) : Int) ∧ (0 : Int) = (↑(0 : Nat) : Int) ∧ l = l ∧ some g = some g) (IT (decide (idxM (noneB l g i) (List.length (obN l i).syms) = List.length (obN l i).syms)) (i < List.length l ∧ idxM (noneO l g) (i + 1) = i + 1 ∧ l = l ∧ (↑(List.length l) : Int) = (↑(List.length l) : Int) ∧ (↑i : Int) + 1 = (↑(i + 1) : Int) ∧ (0 ≤ (↑(i + 1) : Int) ∧ (↑(i + 1) : Int) ≤ 1000000) ∧ l = l ∧ some g = some g) (decide (idxM (noneO l g) (List.length l) = List.length l) = false ∧ FErr.placed (107 : Int) (↑i : Int) = FErr.placed (107 : Int) (↑(idxM (noneO l g) (List.length l)) : Int) ∧ l = l ∧ some g = some g)))) (Nat.beq (4 : Nat) (4 : Nat) = true ∧ decide (idxM (noneO l g) (List.length l) = List.length l) = true ∧ l = l ∧ some g = some g)) := by kernel_rfl
set_option maxHeartbeats 4000000 in
theorem lnmB (l : List Ob) (g : Glb) {W : World} {R own0 : Nat → Prop} {ρ0 : Nat → Option Value} (hown : HownOk (envK (G7 ++ rest) [(39, kValidB), (41, kinside), (42, kjumps), (34, kkreal), (35, kksym)] 1) own0 ρ0) : LOk Tryz.prog (envK (G7 ++ rest) [(39, kValidB), (41, kinside), (42, kjumps), (34, kkreal), (35, kksym)] 1) (ctx ea has) (G7 ++ rest) W R own0 ρ0 (loopN (bodyOf Tryz.f31) 1) (LnmB l g) := by
 refine loop2_ok (J := fun i => idxM (noneO l g) i = i) (N := l.length) (H := HnmB l g) (X := XnmB l g) (Y := YnmB l g) (envK_ok (con := [(39, kValidB), (41, kinside), (42, kjumps), (34, kkreal), (35, kksym)]) ⟨cValidB, cinside, cjumps, ckreal, cksym, trivial⟩) hown (ls := fun i => [(22, LnmJ l g i)]) (fun i => hl1 (by kernel_rfl) (by kernel_rfl) (lnmJ l g i hown)) (fun hm i hi hj => ?_) 0 (fun hm => by first | exact Nat.zero_le _ | omega) (fun hm => rfl)
 rw [bnmB rest l g i]
 delta RQ IT
 simp only [Int.toNat_natCast, eq_self, true_and, and_true]
 refine ⟨fun h => ?_, fun h => ?_⟩
 ·have h := of_decide_eq_true h
  have hlt : i < l.length := by omega
  have hi : i ≤ 999999 := by have := hm.1; omega
  refine ⟨by omega, fun _ => ⟨⟨⟨hm.2 i hlt, by omega⟩, rfl⟩, fun _ => ⟨fun g1 => ?_, fun g1 => ?_⟩⟩⟩
  ·have g1 := of_decide_eq_true g1
   exact ⟨hlt, idxM_step hj (by unfold noneO; rw [g1]; simp), by omega, by omega⟩
  ·have g1 := of_decide_eq_false g1
   have e := idxM_hit (n := l.length) hj (show noneO l g i = true by unfold noneO; simpa using g1) hlt
   rw [e]
   exact ⟨by simp; omega, rfl⟩
 ·have h := of_decide_eq_false h
  have : i = l.length := by omega
  exact ⟨rfl, by rw [← this]; exact decide_eq_true hj⟩
def HnmK (l : List Ob) (g : Glb) (ii : Nat) (i : Nat) : SState := { fr := [(0, .ptr 0 0), (16, .int .i64 (.sym ii 0 1000000)), (17, .ptr 2 0), (130, .ro .obj l), (131, .int .i64 (.full l.length)), (132, .int .i64 (.sym ii 0 1000000)), (138, .ro .rel (obN l ii).crels), (139, .int .i64 (.full (obN l ii).crels.length)), (140, .int .i64 (.sym i 0 1000000))], hp := [(0, some (nmBox l)), (1, some (.gmap .str spT g)), (2, some (.cells [.ro .u32 (obN l ii).data, .ro .u32 (obN l ii).code, .ro .u8 (obN l ii).map, .ro .rel (obN l ii).drels, .ro .rel (obN l ii).crels, .ro .sym (obN l ii).syms]))], next := 3, sz := 184 }
def XnmK (l : List Ob) (g : Glb) (ii : Nat) : SState := { fr := [(0, .ptr 0 0), (130, .ro .obj l), (131, .int .i64 (.full l.length)), (132, .int .i64 (.sym ii 0 1000000))], hp := [(0, some (nmBox l)), (1, some (.gmap .str spT g))], next := 2, sz := 184 }
def YnmK (l : List Ob) (g : Glb) (ii : Nat) : SState := { fr := [(2, .err (.placed 102 ii))], hp := [(0, some (nmBox l)), (1, some (.gmap .str spT g))], next := 2, sz := 184 }
def LnmK (l : List Ob) (g : Glb) (ii : Nat) : LSum := ⟨HnmK l g ii 0, fun k => .ite (decide (idxM (toB l g ii) (obN l ii).crels.length = (obN l ii).crels.length)) (k (.exit 10) (XnmK l g ii)) (k .ret (YnmK l g ii)), NmG l g ∧ ii < l.length⟩
theorem bnmK (rest : List (Nat × SVal)) (l : List Ob) (g : Glb) (ii : Nat) (i : Nat) : (Tr.sat (rnd2 (envK (G7 ++ rest) [(39, kValidB), (41, kinside), (42, kjumps), (34, kkreal), (35, kksym)] 1) (fun i => idxM (toB l g ii) i = i) ((obN l ii).crels.length) (HnmK l g ii) 10 (decide (idxM (toB l g ii) (obN l ii).crels.length = (obN l ii).crels.length)) (XnmK l g ii) (YnmK l g ii) i) (run (envK (G7 ++ rest) [(39, kValidB), (41, kinside), (42, kjumps), (34, kkreal), (35, kksym)] 1) [] (loopN (loopN (bodyOf Tryz.f31) 2) 0) (HnmK l g ii i) .leaf)) = (
 IT (decide ((↑i : Int) < (↑(List.length (obN l ii).crels) : Int))) (RQ (0 ≤ (↑i : Int) ∧ (↑i : Int) < (↑(List.length (obN l ii).crels) : Int)) (RQ (0 ≤ (List.getD (obN l ii).crels (Int.toNat (↑i : Int)) (RT.dflt RT.rel)).at_ ∧ (List.getD (obN l ii).crels (Int.toNat (↑i : Int)) (RT.dflt RT.rel)).at_ < (↑(List.length (obN l ii).map) : Int) ∧ List.length (obN l ii).map ≤ 1000000) (RQ (jumpsB (obN l ii).code (obN l ii).map (List.getD (obN l ii).crels (Int.toNat (↑i : Int)) (RT.dflt RT.rel)).at_ (List.getD (obN l ii).crels (Int.toNat (↑i : Int)) (RT.dflt RT.rel)).kind = true → 0 ≤ (↑ii : Int) ∧ (↑ii : Int) < (↑(List.length l) : Int) ∧ 0 ≤ (List.getD (obN l ii).crels (Int.toNat (↑i : Int)) (RT.dflt RT.rel)).sym ∧ (List.getD (obN l ii).crels (Int.toNat (↑i : Int)) (RT.dflt RT.rel)).sym < (↑(List.length (List.getD l (Int.toNat (↑ii : Int)) (RT.dflt RT.obj)).syms) : Int)) (RQ (jumpsB (obN l ii).code (obN l ii).map (List.getD (obN l ii).crels (Int.toNat (↑i : Int)) (RT.dflt RT.rel)).at_ (List.getD (obN l ii).crels (Int.toNat (↑i : Int)) (RT.dflt RT.rel)).kind = true → 0 ≤ (realM l g (↑ii : Int) (List.getD (obN l ii).crels (Int.toNat (↑i : Int)) (RT.dflt RT.rel)).sym).fst ∧ (realM l g (↑ii : Int) (List.getD (obN l ii).crels (Int.toNat (↑i : Int)) (RT.dflt RT.rel)).sym).fst < (↑(List.length l) : Int) ∧ 0 ≤ (realM l g (↑ii : Int) (List.getD (obN l ii).crels (Int.toNat (↑i : Int)) (RT.dflt RT.rel)).sym).snd ∧ (realM l g (↑ii : Int) (List.getD (obN l ii).crels (Int.toNat (↑i : Int)) (RT.dflt RT.rel)).sym).snd < (↑(List.length (List.getD l (Int.toNat (realM l g (↑ii : Int) (List.getD (obN l ii).crels (Int.toNat (↑i : Int)) (RT.dflt RT.rel)).sym).fst) (RT.dflt RT.obj)).syms) : Int)) (IT (jumpsB (obN l ii).code (obN l ii).map (List.getD (obN l ii).crels (Int.toNat (↑i : Int)) (RT.dflt RT.rel)).at_ (List.getD (obN l ii).crels (Int.toNat (↑i : Int)) (RT.dflt RT.rel)).kind && decide ((symAt l (realM l g (↑ii : Int) (List.getD (obN l ii).crels (Int.toNat (↑i : Int)) (RT.dflt RT.rel)).sym).fst (realM l g (↑ii : Int) (List.getD (obN l ii).crels (Int.toNat (↑i : Int)) (RT.dflt RT.rel)).sym).snd).in_ = 1)) (decide (idxM (toB l g ii) (List.length (obN l ii).crels) = List.length (obN l ii).crels) = false ∧ FErr.placed (102 : Int) (↑ii : Int) = FErr.placed (102 : Int) (↑ii : Int) ∧ FErr.isErr (FErr.bare (102 : Int)) = true ∧ FErr.isPlaced (FErr.bare (102 : Int)) = false ∧ l = l ∧ some g = some g) (i < List.length (obN l ii).crels ∧ idxM (toB l g ii) (i + 1) = i + 1 ∧ (↑ii : Int) = (↑ii : Int) ∧ l = l ∧ (↑(List.length l) : Int) = (↑(List.length l) : Int) ∧ (↑ii : Int) = (↑ii : Int) ∧ (obN l ii).crels = (obN l ii).crels ∧ (↑(List.length (obN l ii).crels) : Int) = (↑(List.length (obN l ii).crels) : Int) ∧ (↑i : Int) + 1 = (↑(i + 1) : Int) ∧ (0 ≤ (↑(i + 1) : Int) ∧ (↑(i + 1) : Int) ≤ 1000000) ∧ l = l ∧ some g = some g ∧ (obN l ii).data = (obN l ii).data ∧ (obN l ii).code = (obN l ii).code ∧ (obN l ii).map = (obN l ii).map ∧ (obN l ii).drels = (obN l ii).drels ∧ (obN l ii).crels = (obN l ii).crels ∧ (obN l ii).syms = (obN l ii).syms)))))) (Nat.beq (10 : Nat) (10 : Nat) = true ∧ decide (idxM (toB l g ii) (List.length (obN l ii).crels) = List.length (obN l ii).crels) = true ∧ l = l ∧ (↑(List.length l) : Int) = (↑(List.length l) : Int) ∧ (↑ii : Int) = (↑ii : Int) ∧ l = l ∧ some g = some g)) := by kernel_rfl
set_option maxHeartbeats 4000000 in
theorem lnmK (l : List Ob) (g : Glb) (ii : Nat) {W : World} {R own0 : Nat → Prop} {ρ0 : Nat → Option Value} (hown : HownOk (envK (G7 ++ rest) [(39, kValidB), (41, kinside), (42, kjumps), (34, kkreal), (35, kksym)] 1) own0 ρ0) : LOk Tryz.prog (envK (G7 ++ rest) [(39, kValidB), (41, kinside), (42, kjumps), (34, kkreal), (35, kksym)] 1) (ctx ea has) (G7 ++ rest) W R own0 ρ0 (loopN (loopN (bodyOf Tryz.f31) 2) 0) (LnmK l g ii) := by
 refine loop2_ok (J := fun i => idxM (toB l g ii) i = i) (N := (obN l ii).crels.length) (H := HnmK l g ii) (X := XnmK l g ii) (Y := YnmK l g ii) (envK_ok (con := [(39, kValidB), (41, kinside), (42, kjumps), (34, kkreal), (35, kksym)]) ⟨cValidB, cinside, cjumps, ckreal, cksym, trivial⟩) hown (ls := fun i => []) (fun i => noSums (by kernel_rfl)) (fun hm i hi hj => ?_) 0 (fun hm => by first | exact Nat.zero_le _ | omega) (fun hm => rfl)
 rw [bnmK rest l g ii i]
 delta RQ IT
 simp only [Int.toNat_natCast, eq_self, true_and, and_true]
 obtain ⟨G, hii⟩ := hm
 have V := G.val ii hii
 have hb : toB l g ii i = _ := toB.eq_1 l g ii i
 refine ⟨fun h => ?_, fun h => ?_⟩
 ·have h := of_decide_eq_true h
  have hlt : i < (obN l ii).crels.length := by omega
  obtain ⟨c1, c2, c3, c4, _⟩ := V.crel hlt _ rfl
  obtain ⟨o, x, e, ho, hx, _⟩ := G.real hii c3 c4
  have hm := V.map
  have hc := V.code
  have hr := V.crels
  refine ⟨by omega, fun _ => ⟨⟨c1, by omega, by omega⟩, fun _ => ⟨fun _ => ⟨by omega, by omega, c3, c4⟩, fun _ => ⟨fun _ => ?_, fun _ => ⟨fun g1 => ?_, fun g1 => ?_⟩⟩⟩⟩⟩
  ·rw [e]; exact ⟨by omega, by omega, by omega, by show ((x : Nat) : Int) < ((obN l ((o : Nat) : Int).toNat).syms.length : Nat); rw [Int.toNat_natCast]; omega⟩
  ·have e := idxM_hit (n := (obN l ii).crels.length) hj (show toB l g ii i = true from g1) hlt
   exact ⟨by rw [e]; exact decide_eq_false (by omega), rfl, rfl⟩
  ·exact ⟨hlt, idxM_step hj (show toB l g ii i = false from g1), by omega, by omega⟩
 ·have h := of_decide_eq_false h
  have : i = (obN l ii).crels.length := by omega
  exact ⟨rfl, by rw [← this]; exact decide_eq_true hj⟩
def HnmC (l : List Ob) (g : Glb) (i : Nat) : SState := { fr := [(0, .ptr 0 0), (130, .ro .obj l), (131, .int .i64 (.full l.length)), (132, .int .i64 (.sym i 0 1000000))], hp := [(0, some (nmBox l)), (1, some (.gmap .str spT g))], next := 2, sz := 184 }
def XnmC (l : List Ob) (g : Glb) : SState := { fr := [(0, .ptr 0 0)], hp := [(0, some (nmBox l)), (1, some (.gmap .str spT g))], next := 2, sz := 184 }
def YnmC (l : List Ob) (g : Glb) : SState := { fr := [(2, .err (.placed 102 (idxM (toO l g) l.length)))], hp := [(0, some (nmBox l)), (1, some (.gmap .str spT g))], next := 2, sz := 184 }
def LnmC (l : List Ob) (g : Glb) : LSum := ⟨HnmC l g 0, fun k => .ite (decide (idxM (toO l g) l.length = l.length)) (k (.exit 8) (XnmC l g)) (k .ret (YnmC l g)), NmG l g⟩
theorem bnmC (rest : List (Nat × SVal)) (l : List Ob) (g : Glb) (i : Nat) : (Tr.sat (rnd2 (envK (G7 ++ rest) [(39, kValidB), (41, kinside), (42, kjumps), (34, kkreal), (35, kksym)] 1) (fun i => idxM (toO l g) i = i) (l.length) (HnmC l g) 8 (decide (idxM (toO l g) l.length = l.length)) (XnmC l g) (YnmC l g) i) (run (envK (G7 ++ rest) [(39, kValidB), (41, kinside), (42, kjumps), (34, kkreal), (35, kksym)] 1) [(33, LnmK l g i)] (loopN (bodyOf Tryz.f31) 2) (HnmC l g i) .leaf)) = (
 IT (decide ((↑i : Int) < (↑(List.length l) : Int))) (RQ (0 ≤ (↑i : Int) ∧ (↑i : Int) < (↑(List.length l) : Int)) (RQ ((NmG l g ∧ i < List.length l) ∧ (↑i : Int) = (↑i : Int) ∧ l = l ∧ (↑(List.length l) : Int) = (↑(List.length l) : Int) ∧ (↑i : Int) = (↑i : Int) ∧ (List.getD l (Int.toNat (↑i : Int)) (RT.dflt RT.obj)).crels = (obN l i).crels ∧ (↑(List.length (List.getD l (Int.toNat (↑i : Int)) (RT.dflt RT.obj)).crels) : Int) = (↑(List.length (obN l i).crels) : Int) ∧ (0 : Int) = (↑(0 : Nat) : Int) ∧ l = l ∧ some g = some g ∧ (List.getD l (Int.toNat (↑i : Int)) (RT.dflt RT.obj)).data = (obN l i).data ∧ (List.getD l (Int.toNat (↑i : Int)) (RT.dflt RT.obj)).code = (obN l i).code ∧ (List.getD l (Int.toNat (↑i : Int)) (RT.dflt RT.obj)).map = (obN l i).map ∧ (List.getD l (Int.toNat (↑i : Int)) (RT.dflt RT.obj)).drels = (obN l i).drels ∧ (List.getD l (Int.toNat (↑i : Int)) (RT.dflt RT.obj)).crels = (obN l i).crels ∧ (List.getD l (Int.toNat (↑i : Int)) (RT.dflt RT.obj)).syms = (obN l i).syms) (IT (decide (idxM (toB l g i) (List.length (obN l i).crels) = List.length (obN l i).crels)) (i < List.length l ∧ idxM (toO l g) (i + 1) = i + 1 ∧ l = l ∧ (↑(List.length l) : Int) = (↑(List.length l) : Int) ∧ (↑i : Int) + 1 = (↑(i + 1) : Int) ∧ (0 ≤ (↑(i + 1) : Int) ∧ (↑(i + 1) : Int) ≤ 1000000) ∧ l = l ∧ some g = some g) (decide (idxM (toO l g) (List.length l) = List.length l) = false ∧ FErr.placed (102 : Int) (↑i : Int) = FErr.placed (102 : Int) (↑(idxM (toO l g) (List.length l)) : Int) ∧ l = l ∧ some g = some g)))) (Nat.beq (8 : Nat) (8 : Nat) = true ∧ decide (idxM (toO l g) (List.length l) = List.length l) = true ∧ l = l ∧ some g = some g)) := by kernel_rfl
set_option maxHeartbeats 4000000 in
theorem lnmC (l : List Ob) (g : Glb) {W : World} {R own0 : Nat → Prop} {ρ0 : Nat → Option Value} (hown : HownOk (envK (G7 ++ rest) [(39, kValidB), (41, kinside), (42, kjumps), (34, kkreal), (35, kksym)] 1) own0 ρ0) : LOk Tryz.prog (envK (G7 ++ rest) [(39, kValidB), (41, kinside), (42, kjumps), (34, kkreal), (35, kksym)] 1) (ctx ea has) (G7 ++ rest) W R own0 ρ0 (loopN (bodyOf Tryz.f31) 2) (LnmC l g) := by
 refine loop2_ok (J := fun i => idxM (toO l g) i = i) (N := l.length) (H := HnmC l g) (X := XnmC l g) (Y := YnmC l g) (envK_ok (con := [(39, kValidB), (41, kinside), (42, kjumps), (34, kkreal), (35, kksym)]) ⟨cValidB, cinside, cjumps, ckreal, cksym, trivial⟩) hown (ls := fun i => [(33, LnmK l g i)]) (fun i => hl1 (by kernel_rfl) (by kernel_rfl) (lnmK l g i hown)) (fun hm i hi hj => ?_) 0 (fun hm => by first | exact Nat.zero_le _ | omega) (fun hm => rfl)
 rw [bnmC rest l g i]
 delta RQ IT
 simp only [Int.toNat_natCast, eq_self, true_and, and_true]
 refine ⟨fun h => ?_, fun h => ?_⟩
 ·have h := of_decide_eq_true h
  have hlt : i < l.length := by omega
  have hi : i ≤ 999999 := by have := hm.few; omega
  refine ⟨by omega, fun _ => ⟨⟨⟨hm, hlt⟩, rfl⟩, fun _ => ⟨fun g1 => ?_, fun g1 => ?_⟩⟩⟩
  ·have g1 := of_decide_eq_true g1
   exact ⟨hlt, idxM_step hj (by unfold toO; rw [g1]; simp), by omega, by omega⟩
  ·have g1 := of_decide_eq_false g1
   have e := idxM_hit (n := l.length) hj (show toO l g i = true by unfold toO; simpa using g1) hlt
   rw [e]
   exact ⟨by simp; omega, rfl⟩
 ·have h := of_decide_eq_false h
  have : i = l.length := by omega
  exact ⟨rfl, by rw [← this]; exact decide_eq_true hj⟩
def knames : List SVal → Nat → Acc ORes := fun a n => match a with
 | [.ptr q 0] => .look q fun cc => match cc with | some (.cells [.ro .obj l, .nilmap, .nilslice, .nilslice, .nilslice, .nilslice, .nilslice, .nilslice]) => (.ret (genR [q] (gone []) n (.err (namesE l)) ([(0, nmBox l), (1, .gmap .str spT (nmG l))]) 1 (some (l.length ≤ 16)))) | _ => .fail "names"
 | _ => .fail "names"
theorem fitnames (rest : List (Nat × SVal)) (l : List Ob) : (fits (envK (G7 ++ rest) [(39, kValidB), (41, kinside), (42, kjumps), (34, kkreal), (35, kksym)] 1) (S1 [.ptr 0 0] (numC 0 [.cells [.ro .obj l, .nilmap, .nilslice, .nilslice, .nilslice, .nilslice, .nilslice, .nilslice]]) 1 184) (S1 [.ptr 0 0] [(0, some (.cells [.ro .obj l, .nilmap, .nilslice, .nilslice, .nilslice, .nilslice, .nilslice, .nilslice]))] 1 184)) = (
 l = l) := by kernel_rfl
abbrev Tnames (rest : List (Nat × SVal)) (l : List Ob) : Prop := Tr.sat (newQ (envK (G7 ++ rest) [(39, kValidB), (41, kinside), (42, kjumps), (34, kkreal), (35, kksym)] 1) (.err (namesE l)) ([(0, nmBox l), (1, .gmap .str spT (nmG l))]) (1 + 1)) (run (envK (G7 ++ rest) [(39, kValidB), (41, kinside), (42, kjumps), (34, kkreal), (35, kksym)] 1) [(3, LnmA l), (19, LnmB l (nmG l)), (30, LnmC l (nmG l))] (bodyOf Tryz.f31) (S1 [.ptr 0 0] [(0, some (.cells [.ro .obj l, .nilmap, .nilslice, .nilslice, .nilslice, .nilslice, .nilslice, .nilslice]))] 1 184) (ends (envK (G7 ++ rest) [(39, kValidB), (41, kinside), (42, kjumps), (34, kkreal), (35, kksym)] 1) Tryz.f31.results.toList))
theorem runnames (rest : List (Nat × SVal)) (l : List Ob) : (Tnames rest l) = (
 RQ (List.length l ≤ 16 ∧ l = l ∧ (↑(List.length l) : Int) = (↑(List.length l) : Int) ∧ (0 : Int) = (↑(0 : Nat) : Int) ∧ l = l ∧ some (@List.nil (FK.ty FK.str × RT.ty (RT.flat (FK.int IntKind.i64) [FK.int IntKind.i64]))) = some (nmO l (0 : Nat)).snd) (IT (!FErr.isErr (nmO l (List.length l)).fst) (RQ ((List.length l ≤ 16 ∧ ∀ (i : Nat), i < List.length l → List.length (obN l i).syms ≤ 1000000) ∧ l = l ∧ (↑(List.length l) : Int) = (↑(List.length l) : Int) ∧ (0 : Int) = (↑(0 : Nat) : Int) ∧ l = l ∧ some (nmO l (List.length l)).snd = some (nmG l)) (IT (decide (idxM (noneO l (nmG l)) (List.length l) = List.length l)) (RQ (NmG l (nmG l) ∧ l = l ∧ (↑(List.length l) : Int) = (↑(List.length l) : Int) ∧ (0 : Int) = (↑(0 : Nat) : Int) ∧ l = l ∧ some (nmG l) = some (nmG l)) (IT (decide (idxM (toO l (nmG l)) (List.length l) = List.length l)) (RQ ((!!gHas (nmG l) (ByteArray.mk #[(109 : UInt8), (97 : UInt8), (105 : UInt8), (110 : UInt8)])) = true → 0 ≤ (gGet (RT.dflt (RT.flat (FK.int IntKind.i64) [FK.int IntKind.i64])) (nmG l) (ByteArray.mk #[(109 : UInt8), (97 : UInt8), (105 : UInt8), (110 : UInt8)])).fst ∧ (gGet (RT.dflt (RT.flat (FK.int IntKind.i64) [FK.int IntKind.i64])) (nmG l) (ByteArray.mk #[(109 : UInt8), (97 : UInt8), (105 : UInt8), (110 : UInt8)])).fst < (↑(List.length l) : Int) ∧ 0 ≤ (gGet (RT.dflt (RT.flat (FK.int IntKind.i64) [FK.int IntKind.i64])) (nmG l) (ByteArray.mk #[(109 : UInt8), (97 : UInt8), (105 : UInt8), (110 : UInt8)])).snd ∧ (gGet (RT.dflt (RT.flat (FK.int IntKind.i64) [FK.int IntKind.i64])) (nmG l) (ByteArray.mk #[(109 : UInt8), (97 : UInt8), (105 : UInt8), (110 : UInt8)])).snd < (↑(List.length (List.getD l (Int.toNat (gGet (RT.dflt (RT.flat (FK.int IntKind.i64) [FK.int IntKind.i64])) (nmG l) (ByteArray.mk #[(109 : UInt8), (97 : UInt8), (105 : UInt8), (110 : UInt8)])).fst) (RT.dflt RT.obj)).syms) : Int)) (IT (!gHas (nmG l) (ByteArray.mk #[(109 : UInt8), (97 : UInt8), (105 : UInt8), (110 : UInt8)]) || !decide ((symAt l (gGet (RT.dflt (RT.flat (FK.int IntKind.i64) [FK.int IntKind.i64])) (nmG l) (ByteArray.mk #[(109 : UInt8), (97 : UInt8), (105 : UInt8), (110 : UInt8)])).fst (gGet (RT.dflt (RT.flat (FK.int IntKind.i64) [FK.int IntKind.i64])) (nmG l) (ByteArray.mk #[(109 : UInt8), (97 : UInt8), (105 : UInt8), (110 : UInt8)])).snd).in_ = 2)) (FErr.bare (107 : Int) = namesE l ∧ l = l ∧ some (nmG l) = some (nmG l)) (FErr.fine = namesE l ∧ l = l ∧ some (nmG l) = some (nmG l)))) (FErr.placed (102 : Int) (↑(idxM (toO l (nmG l)) (List.length l)) : Int) = namesE l ∧ l = l ∧ some (nmG l) = some (nmG l)))) (FErr.placed (107 : Int) (↑(idxM (noneO l (nmG l)) (List.length l)) : Int) = namesE l ∧ l = l ∧ some (nmG l) = some (nmG l)))) ((nmO l (List.length l)).fst = namesE l ∧ l = l ∧ some (nmO l (List.length l)).snd = some (nmG l)))) := by kernel_rfl
set_option maxHeartbeats 4000000 in
theorem gnames (l : List Ob) (hv : l.length ≤ 16) : Box (Tnames rest l) := by
 refine .of (runnames rest l) ?_
 delta RQ IT
 simp only [Int.toNat_natCast, eq_self, true_and, and_true]
 have hE : namesE l = _ := namesE.eq_1 l
 have hG : (nmO l l.length).2 = nmG l := rfl
 rw [hG]
 refine ⟨⟨hv, rfl, rfl⟩, fun _ => ⟨fun g1 => ?_, fun g1 => ?_⟩⟩
 ·have g1 : (nmO l l.length).1.isErr = false := by simpa using g1
  have hf := fine_of g1
  rw [if_neg (by rw [g1]; simp)] at hE
  have hval := (nmO_inv l _ hf).2
  refine ⟨⟨⟨hv, fun i hi => by have := (vOb (hval i hi)).syms; omega⟩, rfl, rfl⟩, fun _ => ⟨fun g2 => ?_, fun g2 => ?_⟩⟩
  ·have g2 := of_decide_eq_true g2
   rw [if_neg (by simpa using g2)] at hE
   have G := nmG_ok hv hf g2
   refine ⟨⟨G, rfl⟩, fun _ => ⟨fun g3 => ?_, fun g3 => ?_⟩⟩
   ·have g3 := of_decide_eq_true g3
    rw [if_neg (by simpa using g3)] at hE
    refine ⟨fun g4 => ?_, fun _ => ⟨fun g4 => ?_, fun g4 => ?_⟩⟩
    ·have g4 : glH (nmG l) mainT = true := by rw [Bool.not_not] at g4; exact g4
     obtain ⟨o, x, e, h1, h2, _⟩ := G.inv.fnd _ g4
     show 0 ≤ (glG (nmG l) mainT).1 ∧ (glG (nmG l) mainT).1 < _ ∧ 0 ≤ (glG (nmG l) mainT).2 ∧ (glG (nmG l) mainT).2 < (((obN l (glG (nmG l) mainT).1.toNat).syms.length : Nat) : Int)
     rw [e]
     simp only [Int.toNat_natCast]
     exact ⟨by omega, by omega, by omega, by omega⟩
    ·rw [hE, if_pos (show noMain l (nmG l) = true from g4)]
    ·rw [hE, if_neg (show ¬ noMain l (nmG l) = true by rw [show noMain l (nmG l) = false from g4]; simp)]
   ·have g3 := of_decide_eq_false g3
    rw [hE, if_pos (by simpa using g3)]
  ·have g2 := of_decide_eq_false g2
   rw [hE, if_pos (by simpa using g2)]
 ·have g1 : (nmO l l.length).1.isErr = true := by simpa using g1
  rw [hE, if_pos g1]
  exact ⟨rfl, rfl⟩
set_option maxHeartbeats 4000000 in
theorem cnames : Con ea has (G7 ++ rest) 31 knames := by
 refine gen_mk Tryz.func31 184 1 (con := [(39, kValidB), (41, kinside), (42, kjumps), (34, kkreal), (35, kksym)]) ⟨cValidB, cinside, cjumps, ckreal, cksym, trivial⟩ (fun hA hr hv => ?_) (by kernel_rfl) (by kernel_rfl) Tryz.ntmps31
 unfold knames at hr; split at hr
 ·rename_i q
  simp only [Acc.run] at hr
  split at hr
  ·rename_i l hq
   have := ret_ok hr; subst this
   refine ⟨[q], [], [.cells [.ro .obj l, .nilmap, .nilslice, .nilslice, .nilslice, .nilslice, .nilslice, .nilslice]], [.ptr 0 0], (S1 [.ptr 0 0] [(0, some (.cells [.ro .obj l, .nilmap, .nilslice, .nilslice, .nilslice, .nilslice, .nilslice, .nilslice]))] 1 184), [(3, LnmA l), (19, LnmB l (nmG l)), (30, LnmC l (nmG l))], .err (namesE l), [(0, nmBox l), (1, .gmap .str spT (nmG l))], 1, rfl, rfl, ⟨rfl, rfl, rfl⟩, rfl, ⟨hq, trivial⟩, rfl, rfl, .of (fitnames rest l) (by simp [nilR]), rfl, (fun W R ρ0 own0 hown => hl3 (by kernel_rfl) (by kernel_rfl) (lnmA l hown) (by kernel_rfl) (lnmB l (nmG l) hown) (by kernel_rfl) (lnmC l (nmG l) hown)), gnames l (hv _ rfl)⟩
  ·cases hr
 ·cases hr
end
end Go.Proofs.YtacmmedhjebfjaaGreatDoor
