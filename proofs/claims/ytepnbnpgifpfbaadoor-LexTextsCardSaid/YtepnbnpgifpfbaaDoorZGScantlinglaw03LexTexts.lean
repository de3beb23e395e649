/- Lemmas and walks of this claim: GScantlinglaw03LexTexts. -/
import Derived.Test.YtepnbnpgifpfbaaDoorZKb
import Derived.Test.YtepnbnpgifpfbaaDoorZKe
import Derived.Test.YtepnbnpgifpfbaaDoorZKf
import Derived.Test.YtepnbnpgifpfbaaDoorZGEAwake03
set_option linter.unusedVariables false
set_option linter.unusedSimpArgs false
namespace Go.Proofs.YtepnbnpgifpfbaaDoor.G
open Go.RowKit Go.Proofs.YtepnbnpgifpfbaaDoorW.PrintWords Go.Proofs.YtepnbnpgifpfbaaDoorW.PrintLast Go.Proofs.YtepnbnpgifpfbaaDoorW.PrintMore
attribute [local go_sem] max2_int min2_int max_two min_two max_three min_three max_four min_four
set_option linter.unusedVariables false
set_option linter.unusedSimpArgs false
attribute [local go_sem high] eqA35
mutual
def scantlinglaw03_LexTexts.j0 : Nat → ByteArray → Bool → Option (Bool)
  | 0, _, _ => none
  | k + 1, x0, x14 => if x14 = true then ((scantlinglaw03_awake.f).bind fun t440 => (some t440)) else (scantlinglaw03_LexTexts.l0 k x0 0)
def scantlinglaw03_LexTexts.l0 : Nat → ByteArray → Int → Option (Bool)
  | 0, _, _ => none
  | k + 1, x0, x3 => if x3 < (x0.size : Int) then (if 0 ≤ x3 then (if (bt x0 x3) = 34 then (some true) else (scantlinglaw03_LexTexts.l0 k x0 (wrap64 (x3 + 1)))) else (none)) else (if 3 + x0.size ≤ 9223372036854775807 then (if ((⟨#[32, 32, 34]⟩ : ByteArray) ++ x0).size + 1 ≤ 9223372036854775807 then ((lex_Read.f k (((⟨#[32, 32, 34]⟩ : ByteArray) ++ x0) ++ (⟨#[34]⟩ : ByteArray))).bind fun bt441 => (if (x0.size : Int) > 0 then ((lex_Utf8.f x0).bind fun t446 => (scantlinglaw03_LexTexts.j2 k x0 bt441.1 bt441.2.1 bt441.2.2 t446)) else (scantlinglaw03_LexTexts.j2 k x0 bt441.1 bt441.2.1 bt441.2.2 false))) else (none)) else (none))
def scantlinglaw03_LexTexts.j2 : Nat → ByteArray → List (S35) → Int → Int → Bool → Option (Bool)
  | 0, _, _, _, _, _ => none
  | k + 1, x0, x4, x5, x6, x7 => if x7 = true then (if x5 = 0 then (if (x4.length : Int) = 2 then (if 0 < (x4.length : Int) then (if (((rd_T35 x4 0).f0) == 2 && (((rd_T35 x4 0).f1) == 2 && ((((rd_T35 x4 0).f2.f0) == 0 && (((rd_T35 x4 0).f2.f1) == 0 && (((rd_T35 x4 0).f2.f2) == 0 && (((rd_T35 x4 0).f2.f3) == 0)))) && ((((rd_T35 x4 0).f3).toList) == x0.toList && (((rd_T35 x4 0).f4) == 0 && (((rd_T35 x4 0).f5) == 0)))))) = true then (if x0.size + x0.size ≤ 9223372036854775807 then ((lex_Utf8.f (x0 ++ x0)).bind fun t448 => (if t448 = true then (if x0.size + 1 ≤ 9223372036854775807 then ((lex_Utf8.f (x0 ++ (⟨#[255]⟩ : ByteArray))).bind fun t449 => (if t449 = true then (some false) else (if 1 + x0.size ≤ 9223372036854775807 then (if ((⟨#[195]⟩ : ByteArray) ++ x0).size + 1 ≤ 9223372036854775807 then ((lex_Utf8.f (((⟨#[195]⟩ : ByteArray) ++ x0) ++ (⟨#[97]⟩ : ByteArray))).bind fun t450 => (some (!t450))) else (none)) else (none)))) else (none)) else (some false))) else (none)) else (some false)) else (none)) else (some false)) else (some false)) else (if x5 = 3 then (if x6 = 2 then (some ((x4.length : Int) == 0)) else (some false)) else (some false))
end
def scantlinglaw03_LexTexts.f (k : Nat) (a0 : ByteArray) : Option (Bool) := (scantlinglaw03_awake.f).bind fun t439 => (if t439 = true then (scantlinglaw03_LexTexts.j0 k a0 (decide ((a0.size : Int) > 300))) else (scantlinglaw03_LexTexts.j0 k a0 true))
set_option maxHeartbeats 8000000 in
set_option maxRecDepth 100000 in
theorem scantlinglaw03_LexTexts.calls (k : Nat) (a0 : ByteArray) (r : Bool) (w : World) (hL_ : LaidW w) (h : scantlinglaw03_LexTexts.f k a0 = some r) :
    Calls Tryd.prog 8 #[.string a0] w fun e w' => e = .returned (.bool r) ∧ Below w.heap.size w w' := by
  have hu35 := Tryd.underlying35
  have HB := Aside0.mk (Below.refl w.heap.size w)
  have H : ((scantlinglaw03_awake.f).bind fun t439 => (if t439 = true then (scantlinglaw03_LexTexts.j0 k a0 (decide ((a0.size : Int) > 300))) else (scantlinglaw03_LexTexts.j0 k a0 true))) = some r := h
  clear h
  have HC2 := Aside0.mk H
  clear H
  go_enter Tryd.func8, Tryd.ntmps8
  go_upto_region 1 with (fail)
  go_cut [14] (fun v14 wc => ∃ (kq : Nat) (x14_1 : Bool), v14 = .bool x14_1 ∧ Aside0 (scantlinglaw03_LexTexts.j0 kq a0 x14_1 = some r) ∧ Aside0 (kq ≤ k) ∧ Aside0 (Below w.heap.size w wc))
  case first =>
    have H := HC2.out
    clear HC2
    replace H := Option.bind_eq_some_iff.mp H
    obtain ⟨t439, A30, H⟩ := H
    replace H : (if t439 = true then (scantlinglaw03_LexTexts.j0 k a0 (decide ((a0.size : Int) > 300))) else (scantlinglaw03_LexTexts.j0 k a0 true)) = some r := H
    have A3 := Aside0.mk A30
    clear A30
    by_cases c4 : t439 = true
    · subst c4
      have H1 : (scantlinglaw03_LexTexts.j0 k a0 (decide ((a0.size : Int) > 300))) = some r := by rw [if_pos rfl] at H; exact H
      clear H
      have H := H1
      clear H1
      have H' := Aside0.mk H
      clear H
      go_wp2_with (first | ((with_reducible refine gate_callee (f := 10) rfl ?_); refine goesL_ (some 8) rfl rfl Tryd.func10 (by kernel_rfl) rfl #[] rfl (by (try simp only [List.map_toArray, List.map_cons, List.map_nil]); first | done | rfl | (simp only [List.length_drop, List.length_take]; rfl)) ?_; (with_reducible refine (scantlinglaw03_awake.calls  true _ ?side1 A3.out).mono ?_); (case side1 => exact (by repeat (first | exact hL_ | apply LaidW.drewN | apply LaidW.drew | refine LaidW.below hL_ (belx HB)))); rintro e w5 ⟨rfl, hb⟩; refine ⟨_, rfl, ?_⟩; have n0_ := Aside0.mk (below_step (belx HB) hb); clear HB; have HB := n0_; clear n0_; (try clear hb); (try clear hb2); (try clear hk); (try clear hi)))
      go_meet
      case rel => exact ⟨_, (decide ((a0.size : Int) > 300)), (by first | rfl | (simp; done) | (simp [*]; done) | exact congrArg (Value.int .i64) (by unfold wrap64; omega)), (by first | exact H' | (subst_vars; exact H')), ⟨by first | omega | exact Nat.le_refl _⟩, ⟨belx HB⟩⟩
    · replace c4 := Bool.eq_false_iff.mpr c4
      subst c4
      have H1 : (scantlinglaw03_LexTexts.j0 k a0 true) = some r := by rw [if_neg (show ¬ (false = true) by decide)] at H; exact H
      clear H
      have H := H1
      clear H1
      have H' := Aside0.mk H
      clear H
      go_wp2_with (first | ((with_reducible refine gate_callee (f := 10) rfl ?_); refine goesL_ (some 8) rfl rfl Tryd.func10 (by kernel_rfl) rfl #[] rfl (by (try simp only [List.map_toArray, List.map_cons, List.map_nil]); first | done | rfl | (simp only [List.length_drop, List.length_take]; rfl)) ?_; (with_reducible refine (scantlinglaw03_awake.calls  false _ ?side1 A3.out).mono ?_); (case side1 => exact (by repeat (first | exact hL_ | apply LaidW.drewN | apply LaidW.drew | refine LaidW.below hL_ (belx HB)))); rintro e w6 ⟨rfl, hb⟩; refine ⟨_, rfl, ?_⟩; have n0_ := Aside0.mk (below_step (belx HB) hb); clear HB; have HB := n0_; clear n0_; (try clear hb); (try clear hb2); (try clear hk); (try clear hi)))
      go_meet
      case rel => exact ⟨_, (true), (by first | rfl | (simp; done) | (simp [*]; done) | exact congrArg (Value.int .i64) (by unfold wrap64; omega)), (by first | exact H' | (subst_vars; exact H')), ⟨by first | omega | exact Nat.le_refl _⟩, ⟨belx HB⟩⟩
  case rest =>
    clear HC2
    obtain ⟨kq, x14_1, rfl, HA, HJ1, HB⟩ := hcut
    cases kq with
    | zero => exact absurd HA.out (by simp [scantlinglaw03_LexTexts.j0])
    | succ kj1 =>
      have H := HA.out
      clear HA
      simp only [scantlinglaw03_LexTexts.j0] at H
      by_cases c7 : x14_1 = true
      case pos =>
        subst c7
        have H1 : ((scantlinglaw03_awake.f).bind fun t440 => (some t440)) = some r := by rw [if_pos rfl] at H; exact H
        clear H
        have H := H1
        clear H1
        replace H := Option.bind_eq_some_iff.mp H
        obtain ⟨t440, A80, H⟩ := H
        replace H : (some t440) = some r := H
        have A8 := Aside0.mk A80
        clear A80
        obtain rfl := Option.some.inj H
        go_wp2_with (first | ((with_reducible refine gate_callee (f := 10) rfl ?_); refine goesL_ (some 15) rfl rfl Tryd.func10 (by kernel_rfl) rfl #[] rfl (by (try simp only [List.map_toArray, List.map_cons, List.map_nil]); first | done | rfl | (simp only [List.length_drop, List.length_take]; rfl)) ?_; (with_reducible refine (scantlinglaw03_awake.calls  t440 _ ?side1 A8.out).mono ?_); (case side1 => exact (by repeat (first | exact hL_ | apply LaidW.drewN | apply LaidW.drew | refine LaidW.below hL_ (belx HB)))); rintro e w9 ⟨rfl, hb⟩; refine ⟨_, rfl, ?_⟩; have n0_ := Aside0.mk (below_step (belx HB) hb); clear HB; have HB := n0_; clear n0_; (try clear hb); (try clear hb2); (try clear hk); (try clear hi)))
        go_ret
        exact ⟨by first | rfl | (simp [errW_none, errW_some] <;> rfl) | (simp [*, errW_none, errW_some] <;> rfl), belx HB⟩
      replace c7 := Bool.eq_false_iff.mpr c7
      subst c7
      have H1 : (scantlinglaw03_LexTexts.l0 kj1 a0 0) = some r := by rw [if_neg (show ¬ (false = true) by decide)] at H; exact H
      clear H
      have H := H1
      clear H1
      have H' := Aside0.mk H
      clear H
      go_wp2
      go_loopg [3] kj1 (fun kq v3 w' => ∃ (x3_2 : Int), v3 = .int .i64 x3_2 ∧ Aside0 (scantlinglaw03_LexTexts.l0 kq a0 x3_2 = some r) ∧ Aside0 (kq ≤ kj1) ∧ Aside0 (Below w.heap.size w w'))
      case atStart => exact ⟨(0), (by first | rfl | (simp; done) | (simp [*]; done) | exact congrArg (Value.int .i64) (by unfold wrap64; omega)), (by first | exact H' | (subst_vars; exact H')), ⟨Nat.le_refl _⟩, ⟨belx HB⟩⟩
      case round =>
        clear H'
        try clear c7
        obtain ⟨x3_2, rfl, HA, HK2, HB⟩ := hrel
        cases gk with
        | zero => exact absurd HA.out (by simp [scantlinglaw03_LexTexts.l0])
        | succ k2 =>
          have H := HA.out
          clear HA
          simp only [scantlinglaw03_LexTexts.l0] at H
          by_cases c10 : x3_2 < (a0.size : Int)
          case pos =>
            rw [if_pos c10] at H
            have c10b0 : decide (x3_2 < (a0.size : Int)) = true := decide_eq_true c10
            clear c10
            by_cases c11 : 0 ≤ x3_2
            case neg => rw [if_neg c11] at H; exact absurd H (by simp)
            rw [if_pos c11] at H
            have c11b0 : decide (0 ≤ x3_2) = true := decide_eq_true c11
            clear c11
            by_cases c13 : (bt a0 x3_2) = 34
            case pos =>
              rw [if_pos c13] at H
              have c13b0 : ((bt a0 x3_2) == 34) = true := beq_iff_eq.mpr c13
              have c13b1 : ((bt a0 x3_2) != 34) = false := bne_eq_false_iff_eq.mpr c13
              clear c13
              obtain rfl := Option.some.inj H
              have p12 : 0 ≤ (x3_2 : Int) := odt
              have q12 : x3_2 < (a0.size : Int) := odt
              have hx12 := bt_at a0 x3_2
              replace p12 := eq_true p12
              replace q12 := eq_true q12
              go_wp2
              go_ret
              exact ⟨by first | rfl | (simp [errW_none, errW_some] <;> rfl) | (simp [*, errW_none, errW_some] <;> rfl), belx HB⟩
            rw [if_neg c13] at H
            have c13b0 : ((bt a0 x3_2) == 34) = false := beq_eq_false_iff_ne.mpr c13
            have c13b1 : ((bt a0 x3_2) != 34) = true := bne_iff_ne.mpr c13
            have H' := Aside0.mk H
            clear H
            have p12 : 0 ≤ (x3_2 : Int) := odt
            have q12 : x3_2 < (a0.size : Int) := odt
            have hx12 := bt_at a0 x3_2
            replace p12 := eq_true p12
            replace q12 := eq_true q12
            go_wp2
            go_roundg k2
            case measure => have := HJ1.out; have := HK2.out; omega
            case rel => exact ⟨(wrap64 (x3_2 + 1)), (by first | rfl | (simp; done) | (simp [*]; done) | exact congrArg (Value.int .i64) (by unfold wrap64; omega)), (by first | exact H' | (subst_vars; exact H')), ⟨by have := HJ1.out; have := HK2.out; omega⟩, ⟨belx HB⟩⟩
          rw [if_neg c10] at H
          have c10b0 : decide (x3_2 < (a0.size : Int)) = false := decide_eq_false c10
          clear c10
          by_cases c14 : 3 + a0.size ≤ 9223372036854775807
          case neg => rw [if_neg c14] at H; exact absurd H (by simp);
          rw [if_pos c14] at H
          have c14b0 := eq_true c14
          have c14b1 : decide (3 + a0.size ≤ 9223372036854775807) = true := decide_eq_true c14
          try have c14b2 : (9223372036854775807 < 3 + a0.size) = False := eq_false (Nat.not_lt.2 c14)
          by_cases c15 : ((⟨#[32, 32, 34]⟩ : ByteArray) ++ a0).size + 1 ≤ 9223372036854775807
          case neg => rw [if_neg c15] at H; exact absurd H (by simp)
          rw [if_pos c15] at H
          have c15b0 := eq_true c15
          have c15b1 : decide (((⟨#[32, 32, 34]⟩ : ByteArray) ++ a0).size + 1 ≤ 9223372036854775807) = true := decide_eq_true c15
          try have c15b2 : (9223372036854775807 < ((⟨#[32, 32, 34]⟩ : ByteArray) ++ a0).size + 1) = False := eq_false (Nat.not_lt.2 c15)
          have c15n : 3 + a0.size + 1 ≤ 9223372036854775807 := by have h_ := c15; simp only [ByteArray.size_append] at h_; exact h_
          have c15n2 : (9223372036854775807 < 3 + a0.size + 1) = False := eq_false (Nat.not_lt.2 c15n)
          replace H := Option.bind_eq_some_iff.mp H
          obtain ⟨⟨t441, t442, t443⟩, A160, H⟩ := H
          replace H : (if (a0.size : Int) > 0 then ((lex_Utf8.f a0).bind fun t446 => (scantlinglaw03_LexTexts.j2 k2 a0 t441 t442 t443 t446)) else (scantlinglaw03_LexTexts.j2 k2 a0 t441 t442 t443 false)) = some r := H
          have A16 := Aside0.mk A160
          clear A160
          have HC17 := Aside0.mk H
          clear H
          go_upto_region 9 with (first | ((with_reducible refine gate_callee (f := 11) rfl ?_); refine goesL_ (some 30) rfl rfl Tryd.func11 (by kernel_rfl) rfl #[.string (((⟨#[32, 32, 34]⟩ : ByteArray) ++ a0) ++ (⟨#[34]⟩ : ByteArray))] rfl (by (try simp only [List.map_toArray, List.map_cons, List.map_nil]); first | done | rfl | (simp only [List.length_drop, List.length_take]; rfl)) ?_; (with_reducible refine (lex_Read.calls k2 (((⟨#[32, 32, 34]⟩ : ByteArray) ++ a0) ++ (⟨#[34]⟩ : ByteArray)) t441 t442 t443 _ ?side1 A16.out).mono ?_); (case side1 => exact (by repeat (first | exact hL_ | apply LaidW.drewN | apply LaidW.drew | refine LaidW.below hL_ (belx HB)))); rintro e w18 ⟨v444, rfl, ho0, hb⟩; refine ⟨_, rfl, ?_⟩; have n0_ := Aside0.mk (Kd.R_lower ho0 (below_size (belx HB))); have n1_ := Aside0.mk (below_step (belx HB) hb); clear HB; have HO445 := n0_; have HB := n1_; clear n0_ n1_; (try clear hb); (try clear hb2); (try clear hk); (try clear hi); (try clear ho0)))
          (try simp only [Act.put, List.setIfInBounds_toArray, List.set_cons_zero, List.set_cons_succ])
          go_cut [7] (fun v7 wc => ∃ (kq : Nat) (x7_16 : Bool), v7 = .bool x7_16 ∧ Aside0 (scantlinglaw03_LexTexts.j2 kq a0 t441 t442 t443 x7_16 = some r) ∧ Aside0 (kq ≤ k2) ∧ Aside0 (Kd.R k35 35 wc w.heap.size (fun _ => True) v444 t441) ∧ Aside0 (Below w.heap.size w wc))
          case first =>
            have H := HC17.out
            clear HC17
            by_cases c19 : (a0.size : Int) > 0
            · rw [if_pos c19] at H
              have c19b0 : decide (0 < (a0.size : Int)) = true := decide_eq_true c19
              have c19b1 : decide (0 < a0.size) = true := decide_eq_true (by omega)
              clear c19
              (first | rw [c19b0] | (simp only [i64_w, i32_w]; rw [c19b0]) | skip)
              replace H := Option.bind_eq_some_iff.mp H
              obtain ⟨t446, A200, H⟩ := H
              replace H : (scantlinglaw03_LexTexts.j2 k2 a0 t441 t442 t443 t446) = some r := H
              have A20 := Aside0.mk A200
              clear A200
              have H' := Aside0.mk H
              clear H
              go_wp2_with (first | (go_at_call 14; (with_reducible refine (lex_Utf8.calls a0 t446 _ ?side1 A20.out).mono ?_); (case side1 => exact (by repeat (first | exact hL_ | apply LaidW.drewN | apply LaidW.drew | refine LaidW.below hL_ (belx HB)))); rintro e w21 ⟨rfl, hb⟩; have n0_ := Aside0.mk (Kd.R_below (by (with_reducible repeat (first | apply Kd.R_alloc | apply Kd.R_drewN | apply Kd.R_drew)); exact HO445.out) hb); have n1_ := Aside0.mk (below_step (belx HB) hb); clear HO445; clear HB; have HO445 := n0_; have HB := n1_; clear n0_ n1_; (try clear hb); (try clear hb2); (try clear hk); (try clear hi)))
              go_meet
              case rel => exact ⟨_, (t446), (by first | rfl | (simp; done) | (simp [*]; done) | exact congrArg (Value.int .i64) (by unfold wrap64; omega)), (by first | exact H' | (subst_vars; exact H')), ⟨by have := HJ1.out; have := HK2.out; first | omega | exact Nat.le_refl _⟩, ⟨by (with_reducible repeat (first | apply Kd.R_alloc | apply Kd.R_drewN | apply Kd.R_drew)); exact HO445.out⟩, ⟨belx HB⟩⟩
            · rw [if_neg c19] at H
              have c19b0 : decide (0 < (a0.size : Int)) = false := decide_eq_false c19
              have c19b1 : decide (0 < a0.size) = false := decide_eq_false (by omega)
              clear c19
              (first | rw [c19b0] | (simp only [i64_w, i32_w]; rw [c19b0]) | skip)
              have H' := Aside0.mk H
              clear H
              go_wp2
              go_meet
              case rel => exact ⟨_, (false), (by first | rfl | (simp; done) | (simp [*]; done) | exact congrArg (Value.int .i64) (by unfold wrap64; omega)), (by first | exact H' | (subst_vars; exact H')), ⟨by have := HJ1.out; have := HK2.out; first | omega | exact Nat.le_refl _⟩, ⟨by (with_reducible repeat (first | apply Kd.R_alloc | apply Kd.R_drewN | apply Kd.R_drew)); exact HO445.out⟩, ⟨belx HB⟩⟩
          case rest =>
            clear HC17
            try clear c7; try clear c10; try clear c10b0; try clear c14; try clear c14b0; try clear c14b1; try clear c14b2; try clear c15; try clear c15b0; try clear c15b1; try clear c15b2
            obtain ⟨kq, x7_16, rfl, HA, HJ16, HO_4, HB⟩ := hcut
            cases kq with
            | zero => exact absurd HA.out (by simp [scantlinglaw03_LexTexts.j2])
            | succ kj16 =>
              have H := HA.out
              clear HA
              simp only [scantlinglaw03_LexTexts.j2] at H
              by_cases c22 : x7_16 = true
              case neg =>
                replace c22 := Bool.eq_false_iff.mpr c22
                subst c22
                have H1 : (if t442 = 3 then (if t443 = 2 then (some ((t441.length : Int) == 0)) else (some false)) else (some false)) = some r := by rw [if_neg (show ¬ (false = true) by decide)] at H; exact H
                clear H
                have H := H1
                clear H1
                by_cases c47 : t442 = 3
                case neg =>
                  rw [if_neg c47] at H
                  have c47b0 : (t442 == 3) = false := beq_eq_false_iff_ne.mpr c47
                  have c47b1 : (t442 != 3) = true := bne_iff_ne.mpr c47
                  obtain rfl := Option.some.inj H
                  go_wp2
                  go_ret
                  exact ⟨by first | rfl | (simp [errW_none, errW_some] <;> rfl) | (simp [*, errW_none, errW_some] <;> rfl), belx HB⟩
                rw [if_pos c47] at H
                have c47b0 : (t442 == 3) = true := beq_iff_eq.mpr c47
                have c47b1 : (t442 != 3) = false := bne_eq_false_iff_eq.mpr c47
                clear c47
                by_cases c48 : t443 = 2
                case neg =>
                  rw [if_neg c48] at H
                  have c48b0 : (t443 == 2) = false := beq_eq_false_iff_ne.mpr c48
                  have c48b1 : (t443 != 2) = true := bne_iff_ne.mpr c48
                  obtain rfl := Option.some.inj H
                  go_wp2
                  go_ret
                  exact ⟨by first | rfl | (simp [errW_none, errW_some] <;> rfl) | (simp [*, errW_none, errW_some] <;> rfl), belx HB⟩
                rw [if_pos c48] at H
                have c48b0 : (t443 == 2) = true := beq_iff_eq.mpr c48
                have c48b1 : (t443 != 2) = false := bne_eq_false_iff_eq.mpr c48
                clear c48
                obtain rfl := Option.some.inj H
                obtain ⟨Ao49, co49, eo49⟩ := Kd.R_slice HO_4.out
                subst eo49
                go_wp2
                go_ret
                exact ⟨by first | rfl | (simp [errW_none, errW_some] <;> rfl) | (simp [*, errW_none, errW_some] <;> rfl), belx HB⟩
              subst c22
              have H1 : (if t442 = 0 then (if (t441.length : Int) = 2 then (if 0 < (t441.length : Int) then (if (((rd_T35 t441 0).f0) == 2 && (((rd_T35 t441 0).f1) == 2 && ((((rd_T35 t441 0).f2.f0) == 0 && (((rd_T35 t441 0).f2.f1) == 0 && (((rd_T35 t441 0).f2.f2) == 0 && (((rd_T35 t441 0).f2.f3) == 0)))) && ((((rd_T35 t441 0).f3).toList) == a0.toList && (((rd_T35 t441 0).f4) == 0 && (((rd_T35 t441 0).f5) == 0)))))) = true then (if a0.size + a0.size ≤ 9223372036854775807 then ((lex_Utf8.f (a0 ++ a0)).bind fun t448 => (if t448 = true then (if a0.size + 1 ≤ 9223372036854775807 then ((lex_Utf8.f (a0 ++ (⟨#[255]⟩ : ByteArray))).bind fun t449 => (if t449 = true then (some false) else (if 1 + a0.size ≤ 9223372036854775807 then (if ((⟨#[195]⟩ : ByteArray) ++ a0).size + 1 ≤ 9223372036854775807 then ((lex_Utf8.f (((⟨#[195]⟩ : ByteArray) ++ a0) ++ (⟨#[97]⟩ : ByteArray))).bind fun t450 => (some (!t450))) else (none)) else (none)))) else (none)) else (some false))) else (none)) else (some false)) else (none)) else (some false)) else (some false)) = some r := by rw [if_pos rfl] at H; exact H
              clear H
              have H := H1
              clear H1
              by_cases c23 : t442 = 0
              case neg =>
                rw [if_neg c23] at H
                have c23b0 : (t442 == 0) = false := beq_eq_false_iff_ne.mpr c23
                have c23b1 : (t442 != 0) = true := bne_iff_ne.mpr c23
                obtain rfl := Option.some.inj H
                go_wp2
                go_ret
                exact ⟨by first | rfl | (simp [errW_none, errW_some] <;> rfl) | (simp [*, errW_none, errW_some] <;> rfl), belx HB⟩
              rw [if_pos c23] at H
              have c23b0 : (t442 == 0) = true := beq_iff_eq.mpr c23
              have c23b1 : (t442 != 0) = false := bne_eq_false_iff_eq.mpr c23
              clear c23
              by_cases c24 : (t441.length : Int) = 2
              case neg =>
                rw [if_neg c24] at H
                have c24b0 : ((t441.length : Int) == 2) = false := beq_eq_false_iff_ne.mpr c24
                have c24b1 : ((t441.length : Int) != 2) = true := bne_iff_ne.mpr c24
                obtain rfl := Option.some.inj H
                obtain ⟨Ao46, co46, eo46⟩ := Kd.R_slice HO_4.out
                subst eo46
                go_wp2
                go_ret
                exact ⟨by first | rfl | (simp [errW_none, errW_some] <;> rfl) | (simp [*, errW_none, errW_some] <;> rfl), belx HB⟩
              rw [if_pos c24] at H
              have c24b0 : ((t441.length : Int) == 2) = true := beq_iff_eq.mpr c24
              have c24b1 : ((t441.length : Int) != 2) = false := bne_eq_false_iff_eq.mpr c24
              clear c24
              by_cases c25 : 0 < (t441.length : Int)
              case neg => rw [if_neg c25] at H; exact absurd H (by simp)
              rw [if_pos c25] at H
              have c25b0 : decide (0 < (t441.length : Int)) = true := decide_eq_true c25
              have c25b1 : decide (0 < t441.length) = true := decide_eq_true (by omega)
              clear c25
              by_cases c26 : (((rd_T35 t441 0).f0) == 2 && (((rd_T35 t441 0).f1) == 2 && ((((rd_T35 t441 0).f2.f0) == 0 && (((rd_T35 t441 0).f2.f1) == 0 && (((rd_T35 t441 0).f2.f2) == 0 && (((rd_T35 t441 0).f2.f3) == 0)))) && ((((rd_T35 t441 0).f3).toList) == a0.toList && (((rd_T35 t441 0).f4) == 0 && (((rd_T35 t441 0).f5) == 0)))))) = true
              case neg =>
                rw [if_neg c26] at H
                have c26b0 : (((rd_T35 t441 0).f0) == 2 && (((rd_T35 t441 0).f1) == 2 && ((((rd_T35 t441 0).f2.f0) == 0 && (((rd_T35 t441 0).f2.f1) == 0 && (((rd_T35 t441 0).f2.f2) == 0 && (((rd_T35 t441 0).f2.f3) == 0)))) && ((((rd_T35 t441 0).f3).toList) == a0.toList && (((rd_T35 t441 0).f4) == 0 && (((rd_T35 t441 0).f5) == 0)))))) = false := by simpa using c26
                (try (have c26b1 : decide (((rd_T35 t441 0).f0) = 2 && (((rd_T35 t441 0).f1) == 2 && ((((rd_T35 t441 0).f2.f0) == 0 && (((rd_T35 t441 0).f2.f1) == 0 && (((rd_T35 t441 0).f2.f2) == 0 && (((rd_T35 t441 0).f2.f3) == 0)))) && ((((rd_T35 t441 0).f3).toList) == a0.toList && (((rd_T35 t441 0).f4) == 0 && (((rd_T35 t441 0).f5) == 0)))))) = false := by simpa using c26))
                (try (have c26b2 : (((rd_T35 t441 0).f0) == 2 && (((rd_T35 t441 0).f1) == 2 && ((((rd_T35 t441 0).f2.f0) == 0 && (((rd_T35 t441 0).f2.f1) == 0 && (((rd_T35 t441 0).f2.f2) == 0 && (((rd_T35 t441 0).f2.f3) == 0)))) && ((((rd_T35 t441 0).f3).toList) == a0.toList && (((rd_T35 t441 0).f4) == 0 && (((rd_T35 t441 0).f5) == 0)))))) = false := by simpa using c26))
                (try (have c26b3 : ¬ (((rd_T35 t441 0).f0) = 2 && (((rd_T35 t441 0).f1) == 2 && ((((rd_T35 t441 0).f2.f0) == 0 && (((rd_T35 t441 0).f2.f1) == 0 && (((rd_T35 t441 0).f2.f2) == 0 && (((rd_T35 t441 0).f2.f3) == 0)))) && ((((rd_T35 t441 0).f3).toList) == a0.toList && (((rd_T35 t441 0).f4) == 0 && (((rd_T35 t441 0).f5) == 0)))))) := by simpa using c26))
                clear c26
                obtain rfl := Option.some.inj H
                obtain ⟨Ao45, co45, eo45⟩ := Kd.R_slice HO_4.out
                subst eo45
                have p447 : 0 ≤ (0 : Int) := (by omega)
                have q447 : 0 < (t441.length : Int) := odt
                obtain ⟨ad447, e447, hx447_0, hx447_1, hx447_2, hx447_3, hx447_4, hx447_5, hx447_6, hx447_7, hx447_8⟩ := at_T35 (Kd.R_reads' HO_4.out).2.2 0 p447 q447
                cases e447
                have qi447 : (0 < t441.length) = True := eq_true (by omega)
                (try rw [show ((0 : Int)).toNat = 0 from rfl] at hx447_0)
                (try rw [show 0 * 9 = 0 from rfl] at hx447_0)
                (try rw [Addr.add_zero'] at hx447_0)
                (try rw [show ((0 : Int)).toNat = 0 from rfl] at hx447_1)
                (try rw [show 0 * 9 = 0 from rfl] at hx447_1)
                (try rw [Addr.add_zero'] at hx447_1)
                (try rw [show ((0 : Int)).toNat = 0 from rfl] at hx447_2)
                (try rw [show 0 * 9 = 0 from rfl] at hx447_2)
                (try rw [Addr.add_zero'] at hx447_2)
                (try rw [show ((0 : Int)).toNat = 0 from rfl] at hx447_3)
                (try rw [show 0 * 9 = 0 from rfl] at hx447_3)
                (try rw [Addr.add_zero'] at hx447_3)
                (try rw [show ((0 : Int)).toNat = 0 from rfl] at hx447_4)
                (try rw [show 0 * 9 = 0 from rfl] at hx447_4)
                (try rw [Addr.add_zero'] at hx447_4)
                (try rw [show ((0 : Int)).toNat = 0 from rfl] at hx447_5)
                (try rw [show 0 * 9 = 0 from rfl] at hx447_5)
                (try rw [Addr.add_zero'] at hx447_5)
                (try rw [show ((0 : Int)).toNat = 0 from rfl] at hx447_6)
                (try rw [show 0 * 9 = 0 from rfl] at hx447_6)
                (try rw [Addr.add_zero'] at hx447_6)
                (try rw [show ((0 : Int)).toNat = 0 from rfl] at hx447_7)
                (try rw [show 0 * 9 = 0 from rfl] at hx447_7)
                (try rw [Addr.add_zero'] at hx447_7)
                (try rw [show ((0 : Int)).toNat = 0 from rfl] at hx447_8)
                (try rw [show 0 * 9 = 0 from rfl] at hx447_8)
                (try rw [Addr.add_zero'] at hx447_8)
                replace p447 := eq_true p447
                replace q447 := eq_true q447
                go_wp2
                go_ret
                exact ⟨by first | rfl | (simp [errW_none, errW_some] <;> rfl) | (simp [*, errW_none, errW_some] <;> rfl), belx HB⟩
              rw [if_pos c26] at H
              have c26b0 : (((rd_T35 t441 0).f0) == 2 && (((rd_T35 t441 0).f1) == 2 && ((((rd_T35 t441 0).f2.f0) == 0 && (((rd_T35 t441 0).f2.f1) == 0 && (((rd_T35 t441 0).f2.f2) == 0 && (((rd_T35 t441 0).f2.f3) == 0)))) && ((((rd_T35 t441 0).f3).toList) == a0.toList && (((rd_T35 t441 0).f4) == 0 && (((rd_T35 t441 0).f5) == 0)))))) = true := c26
              (try (have c26b1 : decide (((rd_T35 t441 0).f0) = 2 && (((rd_T35 t441 0).f1) == 2 && ((((rd_T35 t441 0).f2.f0) == 0 && (((rd_T35 t441 0).f2.f1) == 0 && (((rd_T35 t441 0).f2.f2) == 0 && (((rd_T35 t441 0).f2.f3) == 0)))) && ((((rd_T35 t441 0).f3).toList) == a0.toList && (((rd_T35 t441 0).f4) == 0 && (((rd_T35 t441 0).f5) == 0)))))) = true := by simpa using c26))
              (try (have c26b2 : (((rd_T35 t441 0).f0) == 2 && (((rd_T35 t441 0).f1) == 2 && ((((rd_T35 t441 0).f2.f0) == 0 && (((rd_T35 t441 0).f2.f1) == 0 && (((rd_T35 t441 0).f2.f2) == 0 && (((rd_T35 t441 0).f2.f3) == 0)))) && ((((rd_T35 t441 0).f3).toList) == a0.toList && (((rd_T35 t441 0).f4) == 0 && (((rd_T35 t441 0).f5) == 0)))))) = true := by simpa using c26))
              clear c26
              by_cases c27 : a0.size + a0.size ≤ 9223372036854775807
              case neg => rw [if_neg c27] at H; exact absurd H (by simp)
              rw [if_pos c27] at H
              have c27b0 := eq_true c27
              have c27b1 : decide (a0.size + a0.size ≤ 9223372036854775807) = true := decide_eq_true c27
              try have c27b2 : (9223372036854775807 < a0.size + a0.size) = False := eq_false (Nat.not_lt.2 c27)
              replace H := Option.bind_eq_some_iff.mp H
              obtain ⟨t448, A280, H⟩ := H
              replace H : (if t448 = true then (if a0.size + 1 ≤ 9223372036854775807 then ((lex_Utf8.f (a0 ++ (⟨#[255]⟩ : ByteArray))).bind fun t449 => (if t449 = true then (some false) else (if 1 + a0.size ≤ 9223372036854775807 then (if ((⟨#[195]⟩ : ByteArray) ++ a0).size + 1 ≤ 9223372036854775807 then ((lex_Utf8.f (((⟨#[195]⟩ : ByteArray) ++ a0) ++ (⟨#[97]⟩ : ByteArray))).bind fun t450 => (some (!t450))) else (none)) else (none)))) else (none)) else (some false)) = some r := H
              have A28 := Aside0.mk A280
              clear A280
              by_cases c29 : t448 = true
              case neg =>
                replace c29 := Bool.eq_false_iff.mpr c29
                subst c29
                have H1 : (some false) = some r := by rw [if_neg (show ¬ (false = true) by decide)] at H; exact H
                clear H
                have H := H1
                clear H1
                obtain rfl := Option.some.inj H
                obtain ⟨Ao43, co43, eo43⟩ := Kd.R_slice HO_4.out
                subst eo43
                have p447 : 0 ≤ (0 : Int) := (by omega)
                have q447 : 0 < (t441.length : Int) := odt
                obtain ⟨ad447, e447, hx447_0, hx447_1, hx447_2, hx447_3, hx447_4, hx447_5, hx447_6, hx447_7, hx447_8⟩ := at_T35 (Kd.R_reads' HO_4.out).2.2 0 p447 q447
                cases e447
                have qi447 : (0 < t441.length) = True := eq_true (by omega)
                (try rw [show ((0 : Int)).toNat = 0 from rfl] at hx447_0)
                (try rw [show 0 * 9 = 0 from rfl] at hx447_0)
                (try rw [Addr.add_zero'] at hx447_0)
                (try rw [show ((0 : Int)).toNat = 0 from rfl] at hx447_1)
                (try rw [show 0 * 9 = 0 from rfl] at hx447_1)
                (try rw [Addr.add_zero'] at hx447_1)
                (try rw [show ((0 : Int)).toNat = 0 from rfl] at hx447_2)
                (try rw [show 0 * 9 = 0 from rfl] at hx447_2)
                (try rw [Addr.add_zero'] at hx447_2)
                (try rw [show ((0 : Int)).toNat = 0 from rfl] at hx447_3)
                (try rw [show 0 * 9 = 0 from rfl] at hx447_3)
                (try rw [Addr.add_zero'] at hx447_3)
                (try rw [show ((0 : Int)).toNat = 0 from rfl] at hx447_4)
                (try rw [show 0 * 9 = 0 from rfl] at hx447_4)
                (try rw [Addr.add_zero'] at hx447_4)
                (try rw [show ((0 : Int)).toNat = 0 from rfl] at hx447_5)
                (try rw [show 0 * 9 = 0 from rfl] at hx447_5)
                (try rw [Addr.add_zero'] at hx447_5)
                (try rw [show ((0 : Int)).toNat = 0 from rfl] at hx447_6)
                (try rw [show 0 * 9 = 0 from rfl] at hx447_6)
                (try rw [Addr.add_zero'] at hx447_6)
                (try rw [show ((0 : Int)).toNat = 0 from rfl] at hx447_7)
                (try rw [show 0 * 9 = 0 from rfl] at hx447_7)
                (try rw [Addr.add_zero'] at hx447_7)
                (try rw [show ((0 : Int)).toNat = 0 from rfl] at hx447_8)
                (try rw [show 0 * 9 = 0 from rfl] at hx447_8)
                (try rw [Addr.add_zero'] at hx447_8)
                replace p447 := eq_true p447
                replace q447 := eq_true q447
                go_wp2_with (first | (go_at_call 14; (with_reducible refine (lex_Utf8.calls (a0 ++ a0) false _ ?side1 A28.out).mono ?_); (case side1 => exact (by repeat (first | exact hL_ | apply LaidW.drewN | apply LaidW.drew | refine LaidW.below hL_ (belx HB)))); rintro e w44 ⟨rfl, hb⟩; have n0_ := Aside0.mk (Kd.R_below (by (with_reducible repeat (first | apply Kd.R_alloc | apply Kd.R_drewN | apply Kd.R_drew)); exact HO_4.out) hb); have n1_ := Aside0.mk (below_step (belx HB) hb); clear HO_4; clear HB; have HO_4 := n0_; have HB := n1_; clear n0_ n1_; (try clear hb); (try clear hb2); (try clear hk); (try clear hi)))
                go_ret
                exact ⟨by first | rfl | (simp [errW_none, errW_some] <;> rfl) | (simp [*, errW_none, errW_some] <;> rfl), belx HB⟩
              subst c29
              have H1 : (if a0.size + 1 ≤ 9223372036854775807 then ((lex_Utf8.f (a0 ++ (⟨#[255]⟩ : ByteArray))).bind fun t449 => (if t449 = true then (some false) else (if 1 + a0.size ≤ 9223372036854775807 then (if ((⟨#[195]⟩ : ByteArray) ++ a0).size + 1 ≤ 9223372036854775807 then ((lex_Utf8.f (((⟨#[195]⟩ : ByteArray) ++ a0) ++ (⟨#[97]⟩ : ByteArray))).bind fun t450 => (some (!t450))) else (none)) else (none)))) else (none)) = some r := by rw [if_pos rfl] at H; exact H
              clear H
              have H := H1
              clear H1
              by_cases c30 : a0.size + 1 ≤ 9223372036854775807
              case neg => rw [if_neg c30] at H; exact absurd H (by simp)
              rw [if_pos c30] at H
              have c30b0 := eq_true c30
              have c30b1 : decide (a0.size + 1 ≤ 9223372036854775807) = true := decide_eq_true c30
              try have c30b2 : (9223372036854775807 < a0.size + 1) = False := eq_false (Nat.not_lt.2 c30)
              replace H := Option.bind_eq_some_iff.mp H
              obtain ⟨t449, A310, H⟩ := H
              replace H : (if t449 = true then (some false) else (if 1 + a0.size ≤ 9223372036854775807 then (if ((⟨#[195]⟩ : ByteArray) ++ a0).size + 1 ≤ 9223372036854775807 then ((lex_Utf8.f (((⟨#[195]⟩ : ByteArray) ++ a0) ++ (⟨#[97]⟩ : ByteArray))).bind fun t450 => (some (!t450))) else (none)) else (none))) = some r := H
              have A31 := Aside0.mk A310
              clear A310
              by_cases c32 : t449 = true
              case pos =>
                subst c32
                have H1 : (some false) = some r := by rw [if_pos rfl] at H; exact H
                clear H
                have H := H1
                clear H1
                obtain rfl := Option.some.inj H
                obtain ⟨Ao33, co33, eo33⟩ := Kd.R_slice HO_4.out
                subst eo33
                have p447 : 0 ≤ (0 : Int) := (by omega)
                have q447 : 0 < (t441.length : Int) := odt
                obtain ⟨ad447, e447, hx447_0, hx447_1, hx447_2, hx447_3, hx447_4, hx447_5, hx447_6, hx447_7, hx447_8⟩ := at_T35 (Kd.R_reads' HO_4.out).2.2 0 p447 q447
                cases e447
                have qi447 : (0 < t441.length) = True := eq_true (by omega)
                (try rw [show ((0 : Int)).toNat = 0 from rfl] at hx447_0)
                (try rw [show 0 * 9 = 0 from rfl] at hx447_0)
                (try rw [Addr.add_zero'] at hx447_0)
                (try rw [show ((0 : Int)).toNat = 0 from rfl] at hx447_1)
                (try rw [show 0 * 9 = 0 from rfl] at hx447_1)
                (try rw [Addr.add_zero'] at hx447_1)
                (try rw [show ((0 : Int)).toNat = 0 from rfl] at hx447_2)
                (try rw [show 0 * 9 = 0 from rfl] at hx447_2)
                (try rw [Addr.add_zero'] at hx447_2)
                (try rw [show ((0 : Int)).toNat = 0 from rfl] at hx447_3)
                (try rw [show 0 * 9 = 0 from rfl] at hx447_3)
                (try rw [Addr.add_zero'] at hx447_3)
                (try rw [show ((0 : Int)).toNat = 0 from rfl] at hx447_4)
                (try rw [show 0 * 9 = 0 from rfl] at hx447_4)
                (try rw [Addr.add_zero'] at hx447_4)
                (try rw [show ((0 : Int)).toNat = 0 from rfl] at hx447_5)
                (try rw [show 0 * 9 = 0 from rfl] at hx447_5)
                (try rw [Addr.add_zero'] at hx447_5)
                (try rw [show ((0 : Int)).toNat = 0 from rfl] at hx447_6)
                (try rw [show 0 * 9 = 0 from rfl] at hx447_6)
                (try rw [Addr.add_zero'] at hx447_6)
                (try rw [show ((0 : Int)).toNat = 0 from rfl] at hx447_7)
                (try rw [show 0 * 9 = 0 from rfl] at hx447_7)
                (try rw [Addr.add_zero'] at hx447_7)
                (try rw [show ((0 : Int)).toNat = 0 from rfl] at hx447_8)
                (try rw [show 0 * 9 = 0 from rfl] at hx447_8)
                (try rw [Addr.add_zero'] at hx447_8)
                replace p447 := eq_true p447
                replace q447 := eq_true q447
                go_wp2_with (first | (go_at_call 14; (with_reducible refine (lex_Utf8.calls (a0 ++ a0) true _ ?side1 A28.out).mono ?_); (case side1 => exact (by repeat (first | exact hL_ | apply LaidW.drewN | apply LaidW.drew | refine LaidW.below hL_ (belx HB)))); rintro e w34 ⟨rfl, hb⟩; have n0_ := Aside0.mk (Kd.R_below (by (with_reducible repeat (first | apply Kd.R_alloc | apply Kd.R_drewN | apply Kd.R_drew)); exact HO_4.out) hb); have n1_ := Aside0.mk (below_step (belx HB) hb); clear HO_4; clear HB; have HO_4 := n0_; have HB := n1_; clear n0_ n1_; (try clear hb); (try clear hb2); (try clear hk); (try clear hi)) | (go_at_call 14; (with_reducible refine (lex_Utf8.calls (a0 ++ (⟨#[255]⟩ : ByteArray)) true _ ?side1 A31.out).mono ?_); (case side1 => exact (by repeat (first | exact hL_ | apply LaidW.drewN | apply LaidW.drew | refine LaidW.below hL_ (belx HB)))); rintro e w35 ⟨rfl, hb⟩; have n0_ := Aside0.mk (Kd.R_below (by (with_reducible repeat (first | apply Kd.R_alloc | apply Kd.R_drewN | apply Kd.R_drew)); exact HO_4.out) hb); have n1_ := Aside0.mk (below_step (belx HB) hb); clear HO_4; clear HB; have HO_4 := n0_; have HB := n1_; clear n0_ n1_; (try clear hb); (try clear hb2); (try clear hk); (try clear hi)))
                go_ret
                exact ⟨by first | rfl | (simp [errW_none, errW_some] <;> rfl) | (simp [*, errW_none, errW_some] <;> rfl), belx HB⟩
              replace c32 := Bool.eq_false_iff.mpr c32
              subst c32
              have H1 : (if 1 + a0.size ≤ 9223372036854775807 then (if ((⟨#[195]⟩ : ByteArray) ++ a0).size + 1 ≤ 9223372036854775807 then ((lex_Utf8.f (((⟨#[195]⟩ : ByteArray) ++ a0) ++ (⟨#[97]⟩ : ByteArray))).bind fun t450 => (some (!t450))) else (none)) else (none)) = some r := by rw [if_neg (show ¬ (false = true) by decide)] at H; exact H
              clear H
              have H := H1
              clear H1
              by_cases c36 : 1 + a0.size ≤ 9223372036854775807
              case neg => rw [if_neg c36] at H; exact absurd H (by simp)
              rw [if_pos c36] at H
              have c36b0 := eq_true c36
              have c36b1 : decide (1 + a0.size ≤ 9223372036854775807) = true := decide_eq_true c36
              try have c36b2 : (9223372036854775807 < 1 + a0.size) = False := eq_false (Nat.not_lt.2 c36)
              by_cases c37 : ((⟨#[195]⟩ : ByteArray) ++ a0).size + 1 ≤ 9223372036854775807
              case neg => rw [if_neg c37] at H; exact absurd H (by simp)
              rw [if_pos c37] at H
              have c37b0 := eq_true c37
              have c37b1 : decide (((⟨#[195]⟩ : ByteArray) ++ a0).size + 1 ≤ 9223372036854775807) = true := decide_eq_true c37
              try have c37b2 : (9223372036854775807 < ((⟨#[195]⟩ : ByteArray) ++ a0).size + 1) = False := eq_false (Nat.not_lt.2 c37)
              have c37n : 1 + a0.size + 1 ≤ 9223372036854775807 := by have h_ := c37; simp only [ByteArray.size_append] at h_; exact h_
              have c37n2 : (9223372036854775807 < 1 + a0.size + 1) = False := eq_false (Nat.not_lt.2 c37n)
              replace H := Option.bind_eq_some_iff.mp H
              obtain ⟨t450, A380, H⟩ := H
              replace H : (some (!t450)) = some r := H
              have A38 := Aside0.mk A380
              clear A380
              obtain rfl := Option.some.inj H
              obtain ⟨Ao39, co39, eo39⟩ := Kd.R_slice HO_4.out
              subst eo39
              have p447 : 0 ≤ (0 : Int) := (by omega)
              have q447 : 0 < (t441.length : Int) := odt
              obtain ⟨ad447, e447, hx447_0, hx447_1, hx447_2, hx447_3, hx447_4, hx447_5, hx447_6, hx447_7, hx447_8⟩ := at_T35 (Kd.R_reads' HO_4.out).2.2 0 p447 q447
              cases e447
              have qi447 : (0 < t441.length) = True := eq_true (by omega)
              (try rw [show ((0 : Int)).toNat = 0 from rfl] at hx447_0)
              (try rw [show 0 * 9 = 0 from rfl] at hx447_0)
              (try rw [Addr.add_zero'] at hx447_0)
              (try rw [show ((0 : Int)).toNat = 0 from rfl] at hx447_1)
              (try rw [show 0 * 9 = 0 from rfl] at hx447_1)
              (try rw [Addr.add_zero'] at hx447_1)
              (try rw [show ((0 : Int)).toNat = 0 from rfl] at hx447_2)
              (try rw [show 0 * 9 = 0 from rfl] at hx447_2)
              (try rw [Addr.add_zero'] at hx447_2)
              (try rw [show ((0 : Int)).toNat = 0 from rfl] at hx447_3)
              (try rw [show 0 * 9 = 0 from rfl] at hx447_3)
              (try rw [Addr.add_zero'] at hx447_3)
              (try rw [show ((0 : Int)).toNat = 0 from rfl] at hx447_4)
              (try rw [show 0 * 9 = 0 from rfl] at hx447_4)
              (try rw [Addr.add_zero'] at hx447_4)
              (try rw [show ((0 : Int)).toNat = 0 from rfl] at hx447_5)
              (try rw [show 0 * 9 = 0 from rfl] at hx447_5)
              (try rw [Addr.add_zero'] at hx447_5)
              (try rw [show ((0 : Int)).toNat = 0 from rfl] at hx447_6)
              (try rw [show 0 * 9 = 0 from rfl] at hx447_6)
              (try rw [Addr.add_zero'] at hx447_6)
              (try rw [show ((0 : Int)).toNat = 0 from rfl] at hx447_7)
              (try rw [show 0 * 9 = 0 from rfl] at hx447_7)
              (try rw [Addr.add_zero'] at hx447_7)
              (try rw [show ((0 : Int)).toNat = 0 from rfl] at hx447_8)
              (try rw [show 0 * 9 = 0 from rfl] at hx447_8)
              (try rw [Addr.add_zero'] at hx447_8)
              replace p447 := eq_true p447
              replace q447 := eq_true q447
              go_wp2_with (first | (go_at_call 14; (with_reducible refine (lex_Utf8.calls (a0 ++ a0) true _ ?side1 A28.out).mono ?_); (case side1 => exact (by repeat (first | exact hL_ | apply LaidW.drewN | apply LaidW.drew | refine LaidW.below hL_ (belx HB)))); rintro e w40 ⟨rfl, hb⟩; have n0_ := Aside0.mk (Kd.R_below (by (with_reducible repeat (first | apply Kd.R_alloc | apply Kd.R_drewN | apply Kd.R_drew)); exact HO_4.out) hb); have n1_ := Aside0.mk (below_step (belx HB) hb); clear HO_4; clear HB; have HO_4 := n0_; have HB := n1_; clear n0_ n1_; (try clear hb); (try clear hb2); (try clear hk); (try clear hi)) | (go_at_call 14; (with_reducible refine (lex_Utf8.calls (a0 ++ (⟨#[255]⟩ : ByteArray)) false _ ?side1 A31.out).mono ?_); (case side1 => exact (by repeat (first | exact hL_ | apply LaidW.drewN | apply LaidW.drew | refine LaidW.below hL_ (belx HB)))); rintro e w41 ⟨rfl, hb⟩; have n0_ := Aside0.mk (Kd.R_below (by (with_reducible repeat (first | apply Kd.R_alloc | apply Kd.R_drewN | apply Kd.R_drew)); exact HO_4.out) hb); have n1_ := Aside0.mk (below_step (belx HB) hb); clear HO_4; clear HB; have HO_4 := n0_; have HB := n1_; clear n0_ n1_; (try clear hb); (try clear hb2); (try clear hk); (try clear hi)) | (go_at_call 14; (with_reducible refine (lex_Utf8.calls (((⟨#[195]⟩ : ByteArray) ++ a0) ++ (⟨#[97]⟩ : ByteArray)) t450 _ ?side1 A38.out).mono ?_); (case side1 => exact (by repeat (first | exact hL_ | apply LaidW.drewN | apply LaidW.drew | refine LaidW.below hL_ (belx HB)))); rintro e w42 ⟨rfl, hb⟩; have n0_ := Aside0.mk (Kd.R_below (by (with_reducible repeat (first | apply Kd.R_alloc | apply Kd.R_drewN | apply Kd.R_drew)); exact HO_4.out) hb); have n1_ := Aside0.mk (below_step (belx HB) hb); clear HO_4; clear HB; have HO_4 := n0_; have HB := n1_; clear n0_ n1_; (try clear hb); (try clear hb2); (try clear hk); (try clear hi)))
              go_ret
              exact ⟨by first | rfl | (simp [errW_none, errW_some] <;> rfl) | (simp [*, errW_none, errW_some] <;> rfl), belx HB⟩
def scantlinglaw03_LexTexts.Pure : Prop := ∀ (a0 : ByteArray), a0.size ≤ 140737488351232 → ∃ k, scantlinglaw03_LexTexts.f k a0 = some true
theorem scantlinglaw03_LexTexts.walk (P : scantlinglaw03_LexTexts.Pure) (a0 : ByteArray) (w : World) (hL_ : LaidW w) (w0 : a0.size ≤ 140737488351232) :
    Calls Tryd.prog 8 #[.string a0] w fun e w' => e = .returned (.bool true) ∧ Below w.heap.size w w' := by
  obtain ⟨k, h⟩ := P a0 w0
  refine (scantlinglaw03_LexTexts.calls k a0 true w hL_ h).mono ?_
  rintro e w' ⟨rfl, hd⟩
  exact ⟨rfl, hd⟩
end Go.Proofs.YtepnbnpgifpfbaaDoor.G
