/- chapter 1, IsaRegs: the walk. -/
import Derived.Test.YtgnaefaibgjjoaaIsaG
import Derived.Test.YtgnaefaibgjjoaaPart
set_option linter.unusedVariables false
set_option linter.unusedSimpArgs false
namespace Go.Proofs.Ytgnaefaibgjjoaa
open Go.RowKit Go.Kit

/-- The ways in which an operand is right, or is not. -/
def Right (a : Int) (x p : Bool) (m : Int) : Prop :=
  ((a == 0) = true ∧ p = true) ∨ ((a == 0) = false ∧ x = false ∧ p = false) ∨ ((a == 0) = false ∧ x = true ∧ decide (0 < a) = false ∧ p = false) ∨ ((a == 0) = false ∧ x = true ∧ decide (0 < a) = true ∧ decide (a ≤ m) = true ∧ p = true) ∨ ((a == 0) = false ∧ x = true ∧ decide (0 < a) = true ∧ decide (a ≤ m) = false ∧ p = false)
theorem right_of (a : Int) (x : Bool) (m : Int) : Right a x (a == 0 || (x && (decide (0 < a) && decide (a ≤ m)))) m := by
  unfold Right
  cases (a == 0) <;> cases x <;> cases decide (0 < a) <;> cases decide (a ≤ m) <;> simp
theorem len_of {n : Nat} {vs : List Value} (h : vs.length = n + 1) : ∃ v r, vs = v :: r ∧ r.length = n := by
  cases vs with
  | nil => simp at h
  | cons v r => exact ⟨v, r, rfl, by simpa using h⟩

set_option maxRecDepth 100000 in
set_option maxHeartbeats 4000000 in
theorem regs_main (op a b c : Int) (w : World) (h : (isaClass op == 0) = false) (x y z n : Bool) (h1 : uA op = x) (h2 : uB op = y) (h3 : uC op = z) (h4 : uN op = n)
    (p q r : Bool) (hp : wordOk op a 0 0 0 = p) (hq : wordOk op 0 b 0 0 = q) (hr : wordOk op 0 0 c 0 = r)
    (hp' : Right a x p 15) (hq' : Right b y q 15) (hr' : Right c z r (if n = true then 255 else 15)) :
    Calls Try.prog 3 #[.int .i64 op, .int .i64 a, .int .i64 b, .int .i64 c] w (Gives w (.bool true)) := by
  have H1 := hid h1; clear h1
  have H2 := hid h2; clear h2
  have H3 := hid h3; clear h3
  have H4 := hid h4; clear h4
  have HP := hid hp; clear hp
  have HQ := hid hq; clear hq
  have HR := hid hr; clear hr
  have HP' := hid hp'; clear hp'
  have HQ' := hid hq'; clear hq'
  cases n
  · have HR' := hid (show Right c z r 15 from hr'); clear hr'
    go_enter Try.func3, Try.ntmps3
    go_upto_region 14 with (first | (go_at_call 6; refine (first_any _).mono ?_; rintro e w' ⟨rfl, hb⟩; obtain ⟨g1, rfl⟩ := ext_of w.heap.size w.heap.size [] hb rfl (Nat.le_refl _) (by simp)) | (go_at_call 7; refine (uses_is _ _ H1.out H2.out H3.out H4.out).mono ?_; rintro e w' ⟨rfl, rfl⟩) | (go_at_call 8; refine (class_is _ _ h).mono ?_; rintro e w' ⟨⟨k, hk, rfl⟩, rfl⟩) | (go_at_call 9; (with_reducible refine (word_is _ _ _ _ _ _ HP.out).mono ?_); rintro e w' ⟨rfl, hb⟩; obtain ⟨g2, rfl⟩ := ext_of w.heap.size g1.top [] hb (by go_simp) (by go_simp) (by simp)) | (go_at_call 9; (with_reducible refine (word_is _ _ _ _ _ _ HQ.out).mono ?_); rintro e w' ⟨rfl, hb⟩; obtain ⟨g3, rfl⟩ := ext_of w.heap.size g2.top [] hb (by go_simp) (by go_simp) (by simp)) | (go_at_call 9; (with_reducible refine (word_is _ _ _ _ _ _ HR.out).mono ?_); rintro e w' ⟨rfl, hb⟩; obtain ⟨g4, rfl⟩ := ext_of w.heap.size g3.top [] hb (by go_simp) (by go_simp) (by simp)))
    refine wp_region_lit ?_
    refine wpList_part 18 [69, 70, 71, 72, 73, 74, 75, 76, 77, 78, 79, 80, 81, 82, 83, 84, 85] 86 (.bool true) ?_ ?_
    · simp only [List.take_succ_cons, List.take_zero]
      obtain ⟨ha, rfl⟩ | ⟨ha, rfl, rfl⟩ | ⟨ha, rfl, ha2, rfl⟩ | ⟨ha, rfl, ha2, ha3, rfl⟩ | ⟨ha, rfl, ha2, ha3, rfl⟩ := HP'.out
      all_goals
        go_wp2
        refine' ⟨rfl, rfl, [_, _, _, _, _, _, _, _, _, _, _, _, _, _, _, _, _], rfl, ?eq⟩
        case eq =>
          simp only [putMany, Act.put, List.setIfInBounds_toArray, List.set_cons_zero, List.set_cons_succ]
          with_reducible rfl
    intro vs hl
    obtain ⟨s69, r69, rfl, l69⟩ := len_of hl; clear hl
    obtain ⟨s70, r70, rfl, l70⟩ := len_of l69; clear l69
    obtain ⟨s71, r71, rfl, l71⟩ := len_of l70; clear l70
    obtain ⟨s72, r72, rfl, l72⟩ := len_of l71; clear l71
    obtain ⟨s73, r73, rfl, l73⟩ := len_of l72; clear l72
    obtain ⟨s74, r74, rfl, l74⟩ := len_of l73; clear l73
    obtain ⟨s75, r75, rfl, l75⟩ := len_of l74; clear l74
    obtain ⟨s76, r76, rfl, l76⟩ := len_of l75; clear l75
    obtain ⟨s77, r77, rfl, l77⟩ := len_of l76; clear l76
    obtain ⟨s78, r78, rfl, l78⟩ := len_of l77; clear l77
    obtain ⟨s79, r79, rfl, l79⟩ := len_of l78; clear l78
    obtain ⟨s80, r80, rfl, l80⟩ := len_of l79; clear l79
    obtain ⟨s81, r81, rfl, l81⟩ := len_of l80; clear l80
    obtain ⟨s82, r82, rfl, l82⟩ := len_of l81; clear l81
    obtain ⟨s83, r83, rfl, l83⟩ := len_of l82; clear l82
    obtain ⟨s84, r84, rfl, l84⟩ := len_of l83; clear l83
    obtain ⟨s85, r85, rfl, l85⟩ := len_of l84; clear l84
    obtain rfl := List.length_eq_zero_iff.1 l85
    clear l85
    simp only [putMany, Act.put, List.setIfInBounds_toArray, List.set_cons_zero, List.set_cons_succ, List.drop_succ_cons, List.drop_zero]
    refine wpList_part 17 [87, 88, 89, 90, 91, 92, 93, 94, 95, 96, 97, 98, 99, 100, 101, 102] 103 (.bool true) ?_ ?_
    · simp only [List.take_succ_cons, List.take_zero]
      obtain ⟨ha, rfl⟩ | ⟨ha, rfl, rfl⟩ | ⟨ha, rfl, ha2, rfl⟩ | ⟨ha, rfl, ha2, ha3, rfl⟩ | ⟨ha, rfl, ha2, ha3, rfl⟩ := HQ'.out
      all_goals
        go_wp2
        refine' ⟨rfl, rfl, [_, _, _, _, _, _, _, _, _, _, _, _, _, _, _, _], rfl, ?eq⟩
        case eq =>
          simp only [putMany, Act.put, List.setIfInBounds_toArray, List.set_cons_zero, List.set_cons_succ]
          with_reducible rfl
    intro vs hl
    obtain ⟨s87, r87, rfl, l87⟩ := len_of hl; clear hl
    obtain ⟨s88, r88, rfl, l88⟩ := len_of l87; clear l87
    obtain ⟨s89, r89, rfl, l89⟩ := len_of l88; clear l88
    obtain ⟨s90, r90, rfl, l90⟩ := len_of l89; clear l89
    obtain ⟨s91, r91, rfl, l91⟩ := len_of l90; clear l90
    obtain ⟨s92, r92, rfl, l92⟩ := len_of l91; clear l91
    obtain ⟨s93, r93, rfl, l93⟩ := len_of l92; clear l92
    obtain ⟨s94, r94, rfl, l94⟩ := len_of l93; clear l93
    obtain ⟨s95, r95, rfl, l95⟩ := len_of l94; clear l94
    obtain ⟨s96, r96, rfl, l96⟩ := len_of l95; clear l95
    obtain ⟨s97, r97, rfl, l97⟩ := len_of l96; clear l96
    obtain ⟨s98, r98, rfl, l98⟩ := len_of l97; clear l97
    obtain ⟨s99, r99, rfl, l99⟩ := len_of l98; clear l98
    obtain ⟨s100, r100, rfl, l100⟩ := len_of l99; clear l99
    obtain ⟨s101, r101, rfl, l101⟩ := len_of l100; clear l100
    obtain ⟨s102, r102, rfl, l102⟩ := len_of l101; clear l101
    obtain rfl := List.length_eq_zero_iff.1 l102
    clear l102
    simp only [putMany, Act.put, List.setIfInBounds_toArray, List.set_cons_zero, List.set_cons_succ, List.drop_succ_cons, List.drop_zero]
    refine wpList_part 18 [104, 105, 106, 107, 108, 109, 110, 111, 112, 113, 114, 115, 116, 117, 118, 119, 120] 121 (.bool true) ?_ ?_
    · simp only [List.take_succ_cons, List.take_zero]
      obtain ⟨ha, rfl⟩ | ⟨ha, rfl, rfl⟩ | ⟨ha, rfl, ha2, rfl⟩ | ⟨ha, rfl, ha2, ha3, rfl⟩ | ⟨ha, rfl, ha2, ha3, rfl⟩ := HR'.out
      all_goals
        go_wp2
        refine' ⟨rfl, rfl, [_, _, _, _, _, _, _, _, _, _, _, _, _, _, _, _, _], rfl, ?eq⟩
        case eq =>
          simp only [putMany, Act.put, List.setIfInBounds_toArray, List.set_cons_zero, List.set_cons_succ]
          with_reducible rfl
    intro vs hl
    obtain ⟨s104, r104, rfl, l104⟩ := len_of hl; clear hl
    obtain ⟨s105, r105, rfl, l105⟩ := len_of l104; clear l104
    obtain ⟨s106, r106, rfl, l106⟩ := len_of l105; clear l105
    obtain ⟨s107, r107, rfl, l107⟩ := len_of l106; clear l106
    obtain ⟨s108, r108, rfl, l108⟩ := len_of l107; clear l107
    obtain ⟨s109, r109, rfl, l109⟩ := len_of l108; clear l108
    obtain ⟨s110, r110, rfl, l110⟩ := len_of l109; clear l109
    obtain ⟨s111, r111, rfl, l111⟩ := len_of l110; clear l110
    obtain ⟨s112, r112, rfl, l112⟩ := len_of l111; clear l111
    obtain ⟨s113, r113, rfl, l113⟩ := len_of l112; clear l112
    obtain ⟨s114, r114, rfl, l114⟩ := len_of l113; clear l113
    obtain ⟨s115, r115, rfl, l115⟩ := len_of l114; clear l114
    obtain ⟨s116, r116, rfl, l116⟩ := len_of l115; clear l115
    obtain ⟨s117, r117, rfl, l117⟩ := len_of l116; clear l116
    obtain ⟨s118, r118, rfl, l118⟩ := len_of l117; clear l117
    obtain ⟨s119, r119, rfl, l119⟩ := len_of l118; clear l118
    obtain ⟨s120, r120, rfl, l120⟩ := len_of l119; clear l119
    obtain rfl := List.length_eq_zero_iff.1 l120
    clear l120
    simp only [putMany, Act.put, List.setIfInBounds_toArray, List.set_cons_zero, List.set_cons_succ, List.drop_succ_cons, List.drop_zero]
    go_wp2
    go_ret
    exact gives rfl (since_ext (since_ext (since_ext (since_ext (since_refl _) _) _) _) _)
  · have HR' := hid (show Right c z r 255 from hr'); clear hr'
    go_enter Try.func3, Try.ntmps3
    go_upto_region 14 with (first | (go_at_call 6; refine (first_any _).mono ?_; rintro e w' ⟨rfl, hb⟩; obtain ⟨g1, rfl⟩ := ext_of w.heap.size w.heap.size [] hb rfl (Nat.le_refl _) (by simp)) | (go_at_call 7; refine (uses_is _ _ H1.out H2.out H3.out H4.out).mono ?_; rintro e w' ⟨rfl, rfl⟩) | (go_at_call 8; refine (class_is _ _ h).mono ?_; rintro e w' ⟨⟨k, hk, rfl⟩, rfl⟩) | (go_at_call 9; (with_reducible refine (word_is _ _ _ _ _ _ HP.out).mono ?_); rintro e w' ⟨rfl, hb⟩; obtain ⟨g2, rfl⟩ := ext_of w.heap.size g1.top [] hb (by go_simp) (by go_simp) (by simp)) | (go_at_call 9; (with_reducible refine (word_is _ _ _ _ _ _ HQ.out).mono ?_); rintro e w' ⟨rfl, hb⟩; obtain ⟨g3, rfl⟩ := ext_of w.heap.size g2.top [] hb (by go_simp) (by go_simp) (by simp)) | (go_at_call 9; (with_reducible refine (word_is _ _ _ _ _ _ HR.out).mono ?_); rintro e w' ⟨rfl, hb⟩; obtain ⟨g4, rfl⟩ := ext_of w.heap.size g3.top [] hb (by go_simp) (by go_simp) (by simp)))
    refine wp_region_lit ?_
    refine wpList_part 18 [69, 70, 71, 72, 73, 74, 75, 76, 77, 78, 79, 80, 81, 82, 83, 84, 85] 86 (.bool true) ?_ ?_
    · simp only [List.take_succ_cons, List.take_zero]
      obtain ⟨ha, rfl⟩ | ⟨ha, rfl, rfl⟩ | ⟨ha, rfl, ha2, rfl⟩ | ⟨ha, rfl, ha2, ha3, rfl⟩ | ⟨ha, rfl, ha2, ha3, rfl⟩ := HP'.out
      all_goals
        go_wp2
        refine' ⟨rfl, rfl, [_, _, _, _, _, _, _, _, _, _, _, _, _, _, _, _, _], rfl, ?eq⟩
        case eq =>
          simp only [putMany, Act.put, List.setIfInBounds_toArray, List.set_cons_zero, List.set_cons_succ]
          with_reducible rfl
    intro vs hl
    obtain ⟨s69, r69, rfl, l69⟩ := len_of hl; clear hl
    obtain ⟨s70, r70, rfl, l70⟩ := len_of l69; clear l69
    obtain ⟨s71, r71, rfl, l71⟩ := len_of l70; clear l70
    obtain ⟨s72, r72, rfl, l72⟩ := len_of l71; clear l71
    obtain ⟨s73, r73, rfl, l73⟩ := len_of l72; clear l72
    obtain ⟨s74, r74, rfl, l74⟩ := len_of l73; clear l73
    obtain ⟨s75, r75, rfl, l75⟩ := len_of l74; clear l74
    obtain ⟨s76, r76, rfl, l76⟩ := len_of l75; clear l75
    obtain ⟨s77, r77, rfl, l77⟩ := len_of l76; clear l76
    obtain ⟨s78, r78, rfl, l78⟩ := len_of l77; clear l77
    obtain ⟨s79, r79, rfl, l79⟩ := len_of l78; clear l78
    obtain ⟨s80, r80, rfl, l80⟩ := len_of l79; clear l79
    obtain ⟨s81, r81, rfl, l81⟩ := len_of l80; clear l80
    obtain ⟨s82, r82, rfl, l82⟩ := len_of l81; clear l81
    obtain ⟨s83, r83, rfl, l83⟩ := len_of l82; clear l82
    obtain ⟨s84, r84, rfl, l84⟩ := len_of l83; clear l83
    obtain ⟨s85, r85, rfl, l85⟩ := len_of l84; clear l84
    obtain rfl := List.length_eq_zero_iff.1 l85
    clear l85
    simp only [putMany, Act.put, List.setIfInBounds_toArray, List.set_cons_zero, List.set_cons_succ, List.drop_succ_cons, List.drop_zero]
    refine wpList_part 17 [87, 88, 89, 90, 91, 92, 93, 94, 95, 96, 97, 98, 99, 100, 101, 102] 103 (.bool true) ?_ ?_
    · simp only [List.take_succ_cons, List.take_zero]
      obtain ⟨ha, rfl⟩ | ⟨ha, rfl, rfl⟩ | ⟨ha, rfl, ha2, rfl⟩ | ⟨ha, rfl, ha2, ha3, rfl⟩ | ⟨ha, rfl, ha2, ha3, rfl⟩ := HQ'.out
      all_goals
        go_wp2
        refine' ⟨rfl, rfl, [_, _, _, _, _, _, _, _, _, _, _, _, _, _, _, _], rfl, ?eq⟩
        case eq =>
          simp only [putMany, Act.put, List.setIfInBounds_toArray, List.set_cons_zero, List.set_cons_succ]
          with_reducible rfl
    intro vs hl
    obtain ⟨s87, r87, rfl, l87⟩ := len_of hl; clear hl
    obtain ⟨s88, r88, rfl, l88⟩ := len_of l87; clear l87
    obtain ⟨s89, r89, rfl, l89⟩ := len_of l88; clear l88
    obtain ⟨s90, r90, rfl, l90⟩ := len_of l89; clear l89
    obtain ⟨s91, r91, rfl, l91⟩ := len_of l90; clear l90
    obtain ⟨s92, r92, rfl, l92⟩ := len_of l91; clear l91
    obtain ⟨s93, r93, rfl, l93⟩ := len_of l92; clear l92
    obtain ⟨s94, r94, rfl, l94⟩ := len_of l93; clear l93
    obtain ⟨s95, r95, rfl, l95⟩ := len_of l94; clear l94
    obtain ⟨s96, r96, rfl, l96⟩ := len_of l95; clear l95
    obtain ⟨s97, r97, rfl, l97⟩ := len_of l96; clear l96
    obtain ⟨s98, r98, rfl, l98⟩ := len_of l97; clear l97
    obtain ⟨s99, r99, rfl, l99⟩ := len_of l98; clear l98
    obtain ⟨s100, r100, rfl, l100⟩ := len_of l99; clear l99
    obtain ⟨s101, r101, rfl, l101⟩ := len_of l100; clear l100
    obtain ⟨s102, r102, rfl, l102⟩ := len_of l101; clear l101
    obtain rfl := List.length_eq_zero_iff.1 l102
    clear l102
    simp only [putMany, Act.put, List.setIfInBounds_toArray, List.set_cons_zero, List.set_cons_succ, List.drop_succ_cons, List.drop_zero]
    refine wpList_part 18 [104, 105, 106, 107, 108, 109, 110, 111, 112, 113, 114, 115, 116, 117, 118, 119, 120] 121 (.bool true) ?_ ?_
    · simp only [List.take_succ_cons, List.take_zero]
      obtain ⟨ha, rfl⟩ | ⟨ha, rfl, rfl⟩ | ⟨ha, rfl, ha2, rfl⟩ | ⟨ha, rfl, ha2, ha3, rfl⟩ | ⟨ha, rfl, ha2, ha3, rfl⟩ := HR'.out
      all_goals
        go_wp2
        refine' ⟨rfl, rfl, [_, _, _, _, _, _, _, _, _, _, _, _, _, _, _, _, _], rfl, ?eq⟩
        case eq =>
          simp only [putMany, Act.put, List.setIfInBounds_toArray, List.set_cons_zero, List.set_cons_succ]
          with_reducible rfl
    intro vs hl
    obtain ⟨s104, r104, rfl, l104⟩ := len_of hl; clear hl
    obtain ⟨s105, r105, rfl, l105⟩ := len_of l104; clear l104
    obtain ⟨s106, r106, rfl, l106⟩ := len_of l105; clear l105
    obtain ⟨s107, r107, rfl, l107⟩ := len_of l106; clear l106
    obtain ⟨s108, r108, rfl, l108⟩ := len_of l107; clear l107
    obtain ⟨s109, r109, rfl, l109⟩ := len_of l108; clear l108
    obtain ⟨s110, r110, rfl, l110⟩ := len_of l109; clear l109
    obtain ⟨s111, r111, rfl, l111⟩ := len_of l110; clear l110
    obtain ⟨s112, r112, rfl, l112⟩ := len_of l111; clear l111
    obtain ⟨s113, r113, rfl, l113⟩ := len_of l112; clear l112
    obtain ⟨s114, r114, rfl, l114⟩ := len_of l113; clear l113
    obtain ⟨s115, r115, rfl, l115⟩ := len_of l114; clear l114
    obtain ⟨s116, r116, rfl, l116⟩ := len_of l115; clear l115
    obtain ⟨s117, r117, rfl, l117⟩ := len_of l116; clear l116
    obtain ⟨s118, r118, rfl, l118⟩ := len_of l117; clear l117
    obtain ⟨s119, r119, rfl, l119⟩ := len_of l118; clear l118
    obtain ⟨s120, r120, rfl, l120⟩ := len_of l119; clear l119
    obtain rfl := List.length_eq_zero_iff.1 l120
    clear l120
    simp only [putMany, Act.put, List.setIfInBounds_toArray, List.set_cons_zero, List.set_cons_succ, List.drop_succ_cons, List.drop_zero]
    go_wp2
    go_ret
    exact gives rfl (since_ext (since_ext (since_ext (since_ext (since_refl _) _) _) _) _)

theorem regs_walk (op a b c : Int) (w : World) :
    Calls Try.prog 3 #[.int .i64 op, .int .i64 a, .int .i64 b, .int .i64 c] w (Gives w (.bool true)) := by
  cases h : (isaClass op == 0)
  · refine regs_main op a b c w h _ _ _ _ rfl rfl rfl rfl _ _ _ (wordA h) (wordB h) (wordC h) (right_of _ _ _) (right_of _ _ _) (right_of _ _ _)
  · exact regs_zero op a b c w h
end Go.Proofs.Ytgnaefaibgjjoaa
