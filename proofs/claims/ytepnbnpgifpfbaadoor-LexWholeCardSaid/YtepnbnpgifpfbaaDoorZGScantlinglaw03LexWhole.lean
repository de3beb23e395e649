/- Lemmas and walks of this claim: GScantlinglaw03LexWhole. -/
import Derived.Test.YtepnbnpgifpfbaaDoorZKb
import Derived.Test.YtepnbnpgifpfbaaDoorZKf
import Derived.Test.YtepnbnpgifpfbaaDoorZGEAwake03
set_option linter.unusedVariables false
set_option linter.unusedSimpArgs false
namespace Go.Proofs.YtepnbnpgifpfbaaDoor.G
open Go.RowKit Go.Proofs.YtepnbnpgifpfbaaDoorW.PrintWords Go.Proofs.YtepnbnpgifpfbaaDoorW.PrintLast Go.Proofs.YtepnbnpgifpfbaaDoorW.PrintMore
attribute [local go_sem] max2_int min2_int max_two min_two max_three min_three max_four min_four
set_option linter.unusedVariables false
set_option linter.unusedSimpArgs false
mutual
def scantlinglaw03_LexWhole.j0 : Nat → ByteArray → Bool → Option (Bool)
  | 0, _, _ => none
  | k + 1, x0, x20 => if x20 = true then ((scantlinglaw03_awake.f).bind fun t298 => (some t298)) else ((lex_Read.f k x0).bind fun bt299 => (if bt299.2.1 = 0 then (if bt299.2.2 = 0 then (if (bt299.1.length : Int) = 0 then (scantlinglaw03_LexWhole.j2 k x0 bt299.1 true) else (if 0 ≤ (wrap64 ((bt299.1.length : Int) - 1)) then (if (wrap64 ((bt299.1.length : Int) - 1)) < (bt299.1.length : Int) then (if ((rd_T35 bt299.1 (wrap64 ((bt299.1.length : Int) - 1))).f0) = 10 then (scantlinglaw03_LexWhole.j2 k x0 bt299.1 (((rd_T35 bt299.1 (wrap64 ((bt299.1.length : Int) - 1))).f1) != (x0.size : Int))) else (scantlinglaw03_LexWhole.j2 k x0 bt299.1 true)) else (none)) else (none))) else (scantlinglaw03_LexWhole.j2 k x0 bt299.1 true)) else (if (bt299.1.length : Int) = 0 then (if bt299.2.2 < 0 then (scantlinglaw03_LexWhole.j1 k x0 bt299.2.1 bt299.2.2 true) else (if bt299.2.2 ≥ (x0.size : Int) then (scantlinglaw03_LexWhole.j1 k x0 bt299.2.1 bt299.2.2 true) else (if 0 ≤ bt299.2.2 then (if bt299.2.2 < (x0.size : Int) then (scantlinglaw03_LexWhole.j1 k x0 bt299.2.1 bt299.2.2 ((bt x0 bt299.2.2) == 32)) else (none)) else (none)))) else (scantlinglaw03_LexWhole.j1 k x0 bt299.2.1 bt299.2.2 true))))
def scantlinglaw03_LexWhole.j2 : Nat → ByteArray → List (S35) → Bool → Option (Bool)
  | 0, _, _, _ => none
  | k + 1, x0, x3, x104 => if x104 = true then (some false) else (scantlinglaw03_LexWhole.l0 k x0 x3 0)
def scantlinglaw03_LexWhole.l0 : Nat → ByteArray → List (S35) → Int → Option (Bool)
  | 0, _, _, _ => none
  | k + 1, x0, x3, x12 => if x12 < (x3.length : Int) then (if 0 ≤ x12 then (if ((rd_T35 x3 x12).f0) < 1 then (some false) else (if ((rd_T35 x3 x12).f0) > 10 then (some false) else (if ((((rd_T35 x3 x12).f0) == 10) != (x12 == (wrap64 ((x3.length : Int) - 1)))) = true then (some false) else (if x12 > 0 then (if 0 ≤ (wrap64 (x12 - 1)) then (if (wrap64 (x12 - 1)) < (x3.length : Int) then (if ((rd_T35 x3 (wrap64 (x12 - 1))).f1) ≥ ((rd_T35 x3 x12).f1) then (some false) else (if ((rd_T35 x3 x12).f0) = 10 then (scantlinglaw03_LexWhole.l0 k x0 x3 (wrap64 (x12 + 1))) else (if 0 ≤ ((rd_T35 x3 x12).f1) then (if ((rd_T35 x3 x12).f1) < (x0.size : Int) then (if (bt x0 ((rd_T35 x3 x12).f1)) = 32 then (some false) else (scantlinglaw03_LexWhole.l0 k x0 x3 (wrap64 (x12 + 1)))) else (none)) else (none)))) else (none)) else (none)) else (if ((rd_T35 x3 x12).f0) = 10 then (scantlinglaw03_LexWhole.l0 k x0 x3 (wrap64 (x12 + 1))) else (if 0 ≤ ((rd_T35 x3 x12).f1) then (if ((rd_T35 x3 x12).f1) < (x0.size : Int) then (if (bt x0 ((rd_T35 x3 x12).f1)) = 32 then (some false) else (scantlinglaw03_LexWhole.l0 k x0 x3 (wrap64 (x12 + 1)))) else (none)) else (none))))))) else (none)) else (scantlinglaw03_LexWhole.l1 k x0 x3 0)
def scantlinglaw03_LexWhole.l1 : Nat → ByteArray → List (S35) → Int → Option (Bool)
  | 0, _, _, _ => none
  | k + 1, x0, x3, x13 => if 0 < (x3.length : Int) then (if x13 < ((rd_T35 x3 0).f1) then (if 0 ≤ x13 then (if x13 < (x0.size : Int) then (if (bt x0 x13) = 32 then (scantlinglaw03_LexWhole.l1 k x0 x3 (wrap64 (x13 + 1))) else (some false)) else (none)) else (none)) else (some true)) else (none)
def scantlinglaw03_LexWhole.j1 : Nat → ByteArray → Int → Int → Bool → Option (Bool)
  | 0, _, _, _, _ => none
  | k + 1, x0, x4, x5, x48 => if x48 = true then (some false) else (if 0 ≤ x5 then (if x5 ≤ (x0.size : Int) then ((lex_Read.f k (x0.extract 0 (x5 : Int).toNat)).bind fun bt304 => ((lex_Read.f k (x0.extract (x5 : Int).toNat x0.size)).bind fun bt309 => (if bt304.2.1 = 0 then (if bt309.2.1 = x4 then (some (bt309.2.2 == 0)) else (some false)) else (some false)))) else (none)) else (none))
end
def scantlinglaw03_LexWhole.f (k : Nat) (a0 : ByteArray) : Option (Bool) := (scantlinglaw03_awake.f).bind fun t297 => (if t297 = true then (scantlinglaw03_LexWhole.j0 k a0 (decide ((a0.size : Int) > 3000))) else (scantlinglaw03_LexWhole.j0 k a0 true))
set_option maxHeartbeats 8000000 in
set_option maxRecDepth 100000 in
theorem scantlinglaw03_LexWhole.calls (k : Nat) (a0 : ByteArray) (r : Bool) (w : World) (hL_ : LaidW w) (h : scantlinglaw03_LexWhole.f k a0 = some r) :
    Calls Tryd.prog 4 #[.string a0] w fun e w' => e = .returned (.bool r) ∧ Below w.heap.size w w' := by
  have HB := Aside0.mk (Below.refl w.heap.size w)
  have H : ((scantlinglaw03_awake.f).bind fun t297 => (if t297 = true then (scantlinglaw03_LexWhole.j0 k a0 (decide ((a0.size : Int) > 3000))) else (scantlinglaw03_LexWhole.j0 k a0 true))) = some r := h
  clear h
  have HC2 := Aside0.mk H
  clear H
  go_enter Tryd.func4, Tryd.ntmps4
  go_upto_region 1 with (fail)
  repeat (go_quiet (fail); go_upto_region 1 with (fail))
  go_cut [20] (fun v20 wc => ∃ (kq : Nat) (x20_1 : Bool), v20 = .bool x20_1 ∧ Aside0 (scantlinglaw03_LexWhole.j0 kq a0 x20_1 = some r) ∧ Aside0 (kq ≤ k) ∧ Aside0 (Below w.heap.size w wc))
  case first =>
    have H := HC2.out
    clear HC2
    replace H := Option.bind_eq_some_iff.mp H
    obtain ⟨t297, A30, H⟩ := H
    replace H : (if t297 = true then (scantlinglaw03_LexWhole.j0 k a0 (decide ((a0.size : Int) > 3000))) else (scantlinglaw03_LexWhole.j0 k a0 true)) = some r := H
    have A3 := Aside0.mk A30
    clear A30
    by_cases c4 : t297 = true
    · subst c4
      have H1 : (scantlinglaw03_LexWhole.j0 k a0 (decide ((a0.size : Int) > 3000))) = some r := by rw [if_pos rfl] at H; exact H
      clear H
      have H := H1
      clear H1
      as_aux_lemma =>
        have H' := Aside0.mk H
        clear H
        go_wp2_with (first | (go_at_call 10; (with_reducible refine (scantlinglaw03_awake.calls  true _ ?side1 A3.out).mono ?_); (case side1 => exact (by repeat (first | exact hL_ | apply LaidW.drewN | apply LaidW.drew | refine LaidW.below hL_ (belx HB)))); rintro e w5 ⟨rfl, hb⟩; have n0_ := Aside0.mk (below_step (belx HB) hb); clear HB; have HB := n0_; clear n0_; (try clear hb); (try clear hb2); (try clear hk); (try clear hi)))
        repeat (go_quiet (first | (go_at_call 10; (with_reducible refine (scantlinglaw03_awake.calls  true _ ?side1 A3.out).mono ?_); (case side1 => exact (by repeat (first | exact hL_ | apply LaidW.drewN | apply LaidW.drew | refine LaidW.below hL_ (belx HB)))); rintro e w5 ⟨rfl, hb⟩; have n0_ := Aside0.mk (below_step (belx HB) hb); clear HB; have HB := n0_; clear n0_; (try clear hb); (try clear hb2); (try clear hk); (try clear hi))); try go_wp2_with (first | (go_at_call 10; (with_reducible refine (scantlinglaw03_awake.calls  true _ ?side1 A3.out).mono ?_); (case side1 => exact (by repeat (first | exact hL_ | apply LaidW.drewN | apply LaidW.drew | refine LaidW.below hL_ (belx HB)))); rintro e w5 ⟨rfl, hb⟩; have n0_ := Aside0.mk (below_step (belx HB) hb); clear HB; have HB := n0_; clear n0_; (try clear hb); (try clear hb2); (try clear hk); (try clear hi))))
        go_meet
        case rel => exact ⟨_, (decide ((a0.size : Int) > 3000)), (by first | rfl | (simp; done) | (simp [*]; done) | exact congrArg (Value.int .i64) (by unfold wrap64; omega)), (by first | exact H' | (subst_vars; exact H')), ⟨by first | omega | exact Nat.le_refl _⟩, ⟨belx HB⟩⟩
    · replace c4 := Bool.eq_false_iff.mpr c4
      subst c4
      have H1 : (scantlinglaw03_LexWhole.j0 k a0 true) = some r := by rw [if_neg (show ¬ (false = true) by decide)] at H; exact H
      clear H
      have H := H1
      clear H1
      as_aux_lemma =>
        have H' := Aside0.mk H
        clear H
        go_wp2_with (first | (go_at_call 10; (with_reducible refine (scantlinglaw03_awake.calls  false _ ?side1 A3.out).mono ?_); (case side1 => exact (by repeat (first | exact hL_ | apply LaidW.drewN | apply LaidW.drew | refine LaidW.below hL_ (belx HB)))); rintro e w6 ⟨rfl, hb⟩; have n0_ := Aside0.mk (below_step (belx HB) hb); clear HB; have HB := n0_; clear n0_; (try clear hb); (try clear hb2); (try clear hk); (try clear hi)))
        repeat (go_quiet (first | (go_at_call 10; (with_reducible refine (scantlinglaw03_awake.calls  false _ ?side1 A3.out).mono ?_); (case side1 => exact (by repeat (first | exact hL_ | apply LaidW.drewN | apply LaidW.drew | refine LaidW.below hL_ (belx HB)))); rintro e w6 ⟨rfl, hb⟩; have n0_ := Aside0.mk (below_step (belx HB) hb); clear HB; have HB := n0_; clear n0_; (try clear hb); (try clear hb2); (try clear hk); (try clear hi))); try go_wp2_with (first | (go_at_call 10; (with_reducible refine (scantlinglaw03_awake.calls  false _ ?side1 A3.out).mono ?_); (case side1 => exact (by repeat (first | exact hL_ | apply LaidW.drewN | apply LaidW.drew | refine LaidW.below hL_ (belx HB)))); rintro e w6 ⟨rfl, hb⟩; have n0_ := Aside0.mk (below_step (belx HB) hb); clear HB; have HB := n0_; clear n0_; (try clear hb); (try clear hb2); (try clear hk); (try clear hi))))
        go_meet
        case rel => exact ⟨_, (true), (by first | rfl | (simp; done) | (simp [*]; done) | exact congrArg (Value.int .i64) (by unfold wrap64; omega)), (by first | exact H' | (subst_vars; exact H')), ⟨by first | omega | exact Nat.le_refl _⟩, ⟨belx HB⟩⟩
  case rest =>
    clear HC2
    obtain ⟨kq, x20_1, rfl, HA, HJ1, HB⟩ := hcut
    cases kq with
    | zero => exact absurd HA.out (by simp [scantlinglaw03_LexWhole.j0])
    | succ kj1 =>
      have H := HA.out
      clear HA
      simp only [scantlinglaw03_LexWhole.j0] at H
      by_cases c7 : x20_1 = true
      case pos =>
        subst c7
        have H1 : ((scantlinglaw03_awake.f).bind fun t298 => (some t298)) = some r := by rw [if_pos rfl] at H; exact H
        clear H
        have H := H1
        clear H1
        replace H := Option.bind_eq_some_iff.mp H
        obtain ⟨t298, A80, H⟩ := H
        replace H : (some t298) = some r := H
        have A8 := Aside0.mk A80
        clear A80
        as_aux_lemma =>
          obtain rfl := Option.some.inj H
          go_wp2_with (first | (go_at_call 10; (with_reducible refine (scantlinglaw03_awake.calls  t298 _ ?side1 A8.out).mono ?_); (case side1 => exact (by repeat (first | exact hL_ | apply LaidW.drewN | apply LaidW.drew | refine LaidW.below hL_ (belx HB)))); rintro e w9 ⟨rfl, hb⟩; have n0_ := Aside0.mk (below_step (belx HB) hb); clear HB; have HB := n0_; clear n0_; (try clear hb); (try clear hb2); (try clear hk); (try clear hi)))
          repeat (go_quiet (first | (go_at_call 10; (with_reducible refine (scantlinglaw03_awake.calls  t298 _ ?side1 A8.out).mono ?_); (case side1 => exact (by repeat (first | exact hL_ | apply LaidW.drewN | apply LaidW.drew | refine LaidW.below hL_ (belx HB)))); rintro e w9 ⟨rfl, hb⟩; have n0_ := Aside0.mk (below_step (belx HB) hb); clear HB; have HB := n0_; clear n0_; (try clear hb); (try clear hb2); (try clear hk); (try clear hi))); try go_wp2_with (first | (go_at_call 10; (with_reducible refine (scantlinglaw03_awake.calls  t298 _ ?side1 A8.out).mono ?_); (case side1 => exact (by repeat (first | exact hL_ | apply LaidW.drewN | apply LaidW.drew | refine LaidW.below hL_ (belx HB)))); rintro e w9 ⟨rfl, hb⟩; have n0_ := Aside0.mk (below_step (belx HB) hb); clear HB; have HB := n0_; clear n0_; (try clear hb); (try clear hb2); (try clear hk); (try clear hi))))
          go_ret
          exact ⟨by first | rfl | (simp [errW_none, errW_some] <;> rfl) | (simp [*, errW_none, errW_some] <;> rfl), belx HB⟩
      replace c7 := Bool.eq_false_iff.mpr c7
      subst c7
      have H1 : ((lex_Read.f kj1 a0).bind fun bt299 => (if bt299.2.1 = 0 then (if bt299.2.2 = 0 then (if (bt299.1.length : Int) = 0 then (scantlinglaw03_LexWhole.j2 kj1 a0 bt299.1 true) else (if 0 ≤ (wrap64 ((bt299.1.length : Int) - 1)) then (if (wrap64 ((bt299.1.length : Int) - 1)) < (bt299.1.length : Int) then (if ((rd_T35 bt299.1 (wrap64 ((bt299.1.length : Int) - 1))).f0) = 10 then (scantlinglaw03_LexWhole.j2 kj1 a0 bt299.1 (((rd_T35 bt299.1 (wrap64 ((bt299.1.length : Int) - 1))).f1) != (a0.size : Int))) else (scantlinglaw03_LexWhole.j2 kj1 a0 bt299.1 true)) else (none)) else (none))) else (scantlinglaw03_LexWhole.j2 kj1 a0 bt299.1 true)) else (if (bt299.1.length : Int) = 0 then (if bt299.2.2 < 0 then (scantlinglaw03_LexWhole.j1 kj1 a0 bt299.2.1 bt299.2.2 true) else (if bt299.2.2 ≥ (a0.size : Int) then (scantlinglaw03_LexWhole.j1 kj1 a0 bt299.2.1 bt299.2.2 true) else (if 0 ≤ bt299.2.2 then (if bt299.2.2 < (a0.size : Int) then (scantlinglaw03_LexWhole.j1 kj1 a0 bt299.2.1 bt299.2.2 ((bt a0 bt299.2.2) == 32)) else (none)) else (none)))) else (scantlinglaw03_LexWhole.j1 kj1 a0 bt299.2.1 bt299.2.2 true)))) = some r := by rw [if_neg (show ¬ (false = true) by decide)] at H; exact H
      clear H
      have H := H1
      clear H1
      replace H := Option.bind_eq_some_iff.mp H
      obtain ⟨⟨t299, t300, t301⟩, A100, H⟩ := H
      replace H : (if t300 = 0 then (if t301 = 0 then (if (t299.length : Int) = 0 then (scantlinglaw03_LexWhole.j2 kj1 a0 t299 true) else (if 0 ≤ (wrap64 ((t299.length : Int) - 1)) then (if (wrap64 ((t299.length : Int) - 1)) < (t299.length : Int) then (if ((rd_T35 t299 (wrap64 ((t299.length : Int) - 1))).f0) = 10 then (scantlinglaw03_LexWhole.j2 kj1 a0 t299 (((rd_T35 t299 (wrap64 ((t299.length : Int) - 1))).f1) != (a0.size : Int))) else (scantlinglaw03_LexWhole.j2 kj1 a0 t299 true)) else (none)) else (none))) else (scantlinglaw03_LexWhole.j2 kj1 a0 t299 true)) else (if (t299.length : Int) = 0 then (if t301 < 0 then (scantlinglaw03_LexWhole.j1 kj1 a0 t300 t301 true) else (if t301 ≥ (a0.size : Int) then (scantlinglaw03_LexWhole.j1 kj1 a0 t300 t301 true) else (if 0 ≤ t301 then (if t301 < (a0.size : Int) then (scantlinglaw03_LexWhole.j1 kj1 a0 t300 t301 ((bt a0 t301) == 32)) else (none)) else (none)))) else (scantlinglaw03_LexWhole.j1 kj1 a0 t300 t301 true))) = some r := H
      have A10 := Aside0.mk A100
      clear A100
      by_cases c11 : t300 = 0
      case neg =>
        rw [if_neg c11] at H
        have c11b0 : (t300 == 0) = false := beq_eq_false_iff_ne.mpr c11
        have c11b1 : (t300 != 0) = true := bne_iff_ne.mpr c11
        have HC61 := Aside0.mk H
        clear H
        go_upto_region 5 with (first | (go_at_call 11; (with_reducible refine (lex_Read.calls kj1 a0 t299 t300 t301 _ ?side1 A10.out).mono ?_); (case side1 => exact (by repeat (first | exact hL_ | apply LaidW.drewN | apply LaidW.drew | refine LaidW.below hL_ (belx HB)))); rintro e w62 ⟨v302, rfl, ho0, hb⟩; have n0_ := Aside0.mk (Kd.R_lower ho0 (below_size (belx HB))); have n1_ := Aside0.mk (below_step (belx HB) hb); clear HB; have HO303 := n0_; have HB := n1_; clear n0_ n1_; (try clear hb); (try clear hb2); (try clear hk); (try clear hi); (try clear ho0)))
        repeat (go_quiet (first | (go_at_call 11; (with_reducible refine (lex_Read.calls kj1 a0 t299 t300 t301 _ ?side1 A10.out).mono ?_); (case side1 => exact (by repeat (first | exact hL_ | apply LaidW.drewN | apply LaidW.drew | refine LaidW.below hL_ (belx HB)))); rintro e w62 ⟨v302, rfl, ho0, hb⟩; have n0_ := Aside0.mk (Kd.R_lower ho0 (below_size (belx HB))); have n1_ := Aside0.mk (below_step (belx HB) hb); clear HB; have HO303 := n0_; have HB := n1_; clear n0_ n1_; (try clear hb); (try clear hb2); (try clear hk); (try clear hi); (try clear ho0))); go_upto_region 5 with (first | (go_at_call 11; (with_reducible refine (lex_Read.calls kj1 a0 t299 t300 t301 _ ?side1 A10.out).mono ?_); (case side1 => exact (by repeat (first | exact hL_ | apply LaidW.drewN | apply LaidW.drew | refine LaidW.below hL_ (belx HB)))); rintro e w62 ⟨v302, rfl, ho0, hb⟩; have n0_ := Aside0.mk (Kd.R_lower ho0 (below_size (belx HB))); have n1_ := Aside0.mk (below_step (belx HB) hb); clear HB; have HO303 := n0_; have HB := n1_; clear n0_ n1_; (try clear hb); (try clear hb2); (try clear hk); (try clear hi); (try clear ho0))))
        (try simp only [Act.put, List.setIfInBounds_toArray, List.set_cons_zero, List.set_cons_succ])
        go_cut [48] (fun v48 wc => ∃ (kq : Nat) (x48_60 : Bool), v48 = .bool x48_60 ∧ Aside0 (scantlinglaw03_LexWhole.j1 kq a0 t300 t301 x48_60 = some r) ∧ Aside0 (kq ≤ kj1) ∧ Aside0 (Below w.heap.size w wc))
        case first =>
          have H := HC61.out
          clear HC61
          by_cases c63 : (t299.length : Int) = 0
          · rw [if_pos c63] at H
            have c63b0 : ((t299.length : Int) == 0) = true := beq_iff_eq.mpr c63
            have c63b1 : ((t299.length : Int) != 0) = false := bne_eq_false_iff_eq.mpr c63
            clear c63
            (first | rw [c63b0] | (simp only [i64_w, i32_w]; rw [c63b0]) | skip)
            by_cases c64 : t301 < 0
            · rw [if_pos c64] at H
              have c64b0 : decide (t301 < 0) = true := decide_eq_true c64
              clear c64
              as_aux_lemma =>
                have H' := Aside0.mk H
                clear H
                obtain ⟨Ao65, co65, eo65⟩ := Kd.R_slice HO303.out
                subst eo65
                go_wp2
                repeat (go_quiet (fail); try go_wp2)
                go_meet
                case rel => exact ⟨_, (true), (by first | rfl | (simp; done) | (simp [*]; done) | exact congrArg (Value.int .i64) (by unfold wrap64; omega)), (by first | exact H' | (subst_vars; exact H')), ⟨by have := HJ1.out; first | omega | exact Nat.le_refl _⟩, ⟨belx HB⟩⟩
            · rw [if_neg c64] at H
              have c64b0 : decide (t301 < 0) = false := decide_eq_false c64
              clear c64
              by_cases c66 : t301 ≥ (a0.size : Int)
              · rw [if_pos c66] at H
                have c66b0 : decide ((a0.size : Int) ≤ t301) = true := decide_eq_true c66
                clear c66
                as_aux_lemma =>
                  have H' := Aside0.mk H
                  clear H
                  obtain ⟨Ao67, co67, eo67⟩ := Kd.R_slice HO303.out
                  subst eo67
                  go_wp2
                  repeat (go_quiet (fail); try go_wp2)
                  go_meet
                  case rel => exact ⟨_, (true), (by first | rfl | (simp; done) | (simp [*]; done) | exact congrArg (Value.int .i64) (by unfold wrap64; omega)), (by first | exact H' | (subst_vars; exact H')), ⟨by have := HJ1.out; first | omega | exact Nat.le_refl _⟩, ⟨belx HB⟩⟩
              · rw [if_neg c66] at H
                have c66b0 : decide ((a0.size : Int) ≤ t301) = false := decide_eq_false c66
                clear c66
                by_cases c68 : 0 ≤ t301
                · rw [if_pos c68] at H
                  have c68b0 : decide (0 ≤ t301) = true := decide_eq_true c68
                  clear c68
                  by_cases c69 : t301 < (a0.size : Int)
                  · rw [if_pos c69] at H
                    have c69b0 : decide (t301 < (a0.size : Int)) = true := decide_eq_true c69
                    clear c69
                    as_aux_lemma =>
                      have H' := Aside0.mk H
                      clear H
                      obtain ⟨Ao71, co71, eo71⟩ := Kd.R_slice HO303.out
                      subst eo71
                      have p70 : 0 ≤ (t301 : Int) := odt
                      have q70 : t301 < (a0.size : Int) := odt
                      have hx70 := bt_at a0 t301
                      replace p70 := eq_true p70
                      replace q70 := eq_true q70
                      go_wp2
                      repeat (go_quiet (fail); try go_wp2)
                      go_meet
                      case rel => exact ⟨_, (((bt a0 t301) == 32)), (by first | rfl | (simp; done) | (simp [*]; done) | exact congrArg (Value.int .i64) (by unfold wrap64; omega)), (by first | exact H' | (subst_vars; exact H')), ⟨by have := HJ1.out; first | omega | exact Nat.le_refl _⟩, ⟨belx HB⟩⟩
                  · rw [if_neg c69] at H
                    exact absurd H (by simp)
                · rw [if_neg c68] at H
                  exact absurd H (by simp)
          · rw [if_neg c63] at H
            have c63b0 : ((t299.length : Int) == 0) = false := beq_eq_false_iff_ne.mpr c63
            have c63b1 : ((t299.length : Int) != 0) = true := bne_iff_ne.mpr c63
            have c63b2 : ¬ (t299 = []) := fun h_ => c63 (by rw [h_]; rfl)
            (first | rw [c63b0] | (simp only [i64_w, i32_w]; rw [c63b0]) | skip)
            as_aux_lemma =>
              have H' := Aside0.mk H
              clear H
              obtain ⟨Ao72, co72, eo72⟩ := Kd.R_slice HO303.out
              subst eo72
              go_wp2
              repeat (go_quiet (fail); try go_wp2)
              go_meet
              case rel => exact ⟨_, (true), (by first | rfl | (simp; done) | (simp [*]; done) | exact congrArg (Value.int .i64) (by unfold wrap64; omega)), (by first | exact H' | (subst_vars; exact H')), ⟨by have := HJ1.out; first | omega | exact Nat.le_refl _⟩, ⟨belx HB⟩⟩
        case rest =>
          clear HC61
          try clear c7; try clear c11; try clear c11b0; try clear c11b1
          obtain ⟨kq, x48_60, rfl, HA, HJ60, HB⟩ := hcut
          cases kq with
          | zero => exact absurd HA.out (by simp [scantlinglaw03_LexWhole.j1])
          | succ kj60 =>
            have H := HA.out
            clear HA
            simp only [scantlinglaw03_LexWhole.j1] at H
            by_cases c73 : x48_60 = true
            case pos =>
              subst c73
              have H1 : (some false) = some r := by rw [if_pos rfl] at H; exact H
              clear H
              have H := H1
              clear H1
              as_aux_lemma =>
                obtain rfl := Option.some.inj H
                go_wp2
                repeat (go_quiet (fail); try go_wp2)
                go_ret
                exact ⟨by first | rfl | (simp [errW_none, errW_some] <;> rfl) | (simp [*, errW_none, errW_some] <;> rfl), belx HB⟩
            replace c73 := Bool.eq_false_iff.mpr c73
            subst c73
            have H1 : (if 0 ≤ t301 then (if t301 ≤ (a0.size : Int) then ((lex_Read.f kj60 (a0.extract 0 (t301 : Int).toNat)).bind fun bt304 => ((lex_Read.f kj60 (a0.extract (t301 : Int).toNat a0.size)).bind fun bt309 => (if bt304.2.1 = 0 then (if bt309.2.1 = t300 then (some (bt309.2.2 == 0)) else (some false)) else (some false)))) else (none)) else (none)) = some r := by rw [if_neg (show ¬ (false = true) by decide)] at H; exact H
            clear H
            have H := H1
            clear H1
            by_cases c74 : 0 ≤ t301
            case neg => rw [if_neg c74] at H; exact absurd H (by simp);
            rw [if_pos c74] at H
            have c74b0 := eq_true c74
            have c74b1 : decide (0 ≤ t301) = true := decide_eq_true c74
            clear c74
            by_cases c75 : t301 ≤ (a0.size : Int)
            case neg => rw [if_neg c75] at H; exact absurd H (by simp)
            rw [if_pos c75] at H
            have c75b0 := eq_true c75
            have c75b1 : decide (t301 ≤ (a0.size : Int)) = true := decide_eq_true c75
            clear c75
            replace H := Option.bind_eq_some_iff.mp H
            obtain ⟨⟨t304, t305, t306⟩, A760, H⟩ := H
            replace H : ((lex_Read.f kj60 (a0.extract (t301 : Int).toNat a0.size)).bind fun bt309 => (if t305 = 0 then (if bt309.2.1 = t300 then (some (bt309.2.2 == 0)) else (some false)) else (some false))) = some r := H
            have A76 := Aside0.mk A760
            clear A760
            have c77b0 := eq_true (odt : 0 ≤ t301)
            have c78b0 := eq_true (odt : t301 ≤ (a0.size : Int))
            replace H := Option.bind_eq_some_iff.mp H
            obtain ⟨⟨t309, t310, t311⟩, A790, H⟩ := H
            replace H : (if t305 = 0 then (if t310 = t300 then (some (t311 == 0)) else (some false)) else (some false)) = some r := H
            have A79 := Aside0.mk A790
            clear A790
            by_cases c80 : t305 = 0
            case neg =>
              rw [if_neg c80] at H
              have c80b0 : (t305 == 0) = false := beq_eq_false_iff_ne.mpr c80
              have c80b1 : (t305 != 0) = true := bne_iff_ne.mpr c80
              as_aux_lemma =>
                obtain rfl := Option.some.inj H
                go_wp2_with (first | (go_at_call 11; (with_reducible refine (lex_Read.calls kj60 (a0.extract 0 (t301 : Int).toNat) t304 t305 t306 _ ?side1 A76.out).mono ?_); (case side1 => exact (by repeat (first | exact hL_ | apply LaidW.drewN | apply LaidW.drew | refine LaidW.below hL_ (belx HB)))); rintro e w86 ⟨v307, rfl, ho0, hb⟩; have n0_ := Aside0.mk (Kd.R_lower ho0 (below_size (belx HB))); have n1_ := Aside0.mk (below_step (belx HB) hb); clear HB; have HO308 := n0_; have HB := n1_; clear n0_ n1_; (try clear hb); (try clear hb2); (try clear hk); (try clear hi); (try clear ho0)) | (go_at_call 11; (with_reducible refine (lex_Read.calls kj60 (a0.extract (t301 : Int).toNat a0.size) t309 t310 t311 _ ?side1 A79.out).mono ?_); (case side1 => exact (by repeat (first | exact hL_ | apply LaidW.drewN | apply LaidW.drew | refine LaidW.below hL_ (belx HB)))); rintro e w87 ⟨v312, rfl, ho0, hb⟩; have n0_ := Aside0.mk (Kd.R_elder' (by (with_reducible repeat (first | apply Kd.R_alloc | apply Kd.R_drewN | apply Kd.R_drew)); exact HO308.out) (Kd.R_base ho0) hb); have n1_ := Aside0.mk (Kd.R_lower (Kd.R_new' ho0 (Kd.R_lt (by (with_reducible repeat (first | apply Kd.R_alloc | apply Kd.R_drewN | apply Kd.R_drew)); exact HO308.out))) (below_size (belx HB))); have n2_ := Aside0.mk (below_step (belx HB) hb); clear HO308; clear HB; have HO308 := n0_; have HO313 := n1_; have HB := n2_; clear n0_ n1_ n2_; (try clear hb); (try clear hb2); (try clear hk); (try clear hi); (try clear ho0)))
                repeat (go_quiet (first | (go_at_call 11; (with_reducible refine (lex_Read.calls kj60 (a0.extract 0 (t301 : Int).toNat) t304 t305 t306 _ ?side1 A76.out).mono ?_); (case side1 => exact (by repeat (first | exact hL_ | apply LaidW.drewN | apply LaidW.drew | refine LaidW.below hL_ (belx HB)))); rintro e w86 ⟨v307, rfl, ho0, hb⟩; have n0_ := Aside0.mk (Kd.R_lower ho0 (below_size (belx HB))); have n1_ := Aside0.mk (below_step (belx HB) hb); clear HB; have HO308 := n0_; have HB := n1_; clear n0_ n1_; (try clear hb); (try clear hb2); (try clear hk); (try clear hi); (try clear ho0)) | (go_at_call 11; (with_reducible refine (lex_Read.calls kj60 (a0.extract (t301 : Int).toNat a0.size) t309 t310 t311 _ ?side1 A79.out).mono ?_); (case side1 => exact (by repeat (first | exact hL_ | apply LaidW.drewN | apply LaidW.drew | refine LaidW.below hL_ (belx HB)))); rintro e w87 ⟨v312, rfl, ho0, hb⟩; have n0_ := Aside0.mk (Kd.R_elder' (by (with_reducible repeat (first | apply Kd.R_alloc | apply Kd.R_drewN | apply Kd.R_drew)); exact HO308.out) (Kd.R_base ho0) hb); have n1_ := Aside0.mk (Kd.R_lower (Kd.R_new' ho0 (Kd.R_lt (by (with_reducible repeat (first | apply Kd.R_alloc | apply Kd.R_drewN | apply Kd.R_drew)); exact HO308.out))) (below_size (belx HB))); have n2_ := Aside0.mk (below_step (belx HB) hb); clear HO308; clear HB; have HO308 := n0_; have HO313 := n1_; have HB := n2_; clear n0_ n1_ n2_; (try clear hb); (try clear hb2); (try clear hk); (try clear hi); (try clear ho0))); try go_wp2_with (first | (go_at_call 11; (with_reducible refine (lex_Read.calls kj60 (a0.extract 0 (t301 : Int).toNat) t304 t305 t306 _ ?side1 A76.out).mono ?_); (case side1 => exact (by repeat (first | exact hL_ | apply LaidW.drewN | apply LaidW.drew | refine LaidW.below hL_ (belx HB)))); rintro e w86 ⟨v307, rfl, ho0, hb⟩; have n0_ := Aside0.mk (Kd.R_lower ho0 (below_size (belx HB))); have n1_ := Aside0.mk (below_step (belx HB) hb); clear HB; have HO308 := n0_; have HB := n1_; clear n0_ n1_; (try clear hb); (try clear hb2); (try clear hk); (try clear hi); (try clear ho0)) | (go_at_call 11; (with_reducible refine (lex_Read.calls kj60 (a0.extract (t301 : Int).toNat a0.size) t309 t310 t311 _ ?side1 A79.out).mono ?_); (case side1 => exact (by repeat (first | exact hL_ | apply LaidW.drewN | apply LaidW.drew | refine LaidW.below hL_ (belx HB)))); rintro e w87 ⟨v312, rfl, ho0, hb⟩; have n0_ := Aside0.mk (Kd.R_elder' (by (with_reducible repeat (first | apply Kd.R_alloc | apply Kd.R_drewN | apply Kd.R_drew)); exact HO308.out) (Kd.R_base ho0) hb); have n1_ := Aside0.mk (Kd.R_lower (Kd.R_new' ho0 (Kd.R_lt (by (with_reducible repeat (first | apply Kd.R_alloc | apply Kd.R_drewN | apply Kd.R_drew)); exact HO308.out))) (below_size (belx HB))); have n2_ := Aside0.mk (below_step (belx HB) hb); clear HO308; clear HB; have HO308 := n0_; have HO313 := n1_; have HB := n2_; clear n0_ n1_ n2_; (try clear hb); (try clear hb2); (try clear hk); (try clear hi); (try clear ho0))))
                go_ret
                exact ⟨by first | rfl | (simp [errW_none, errW_some] <;> rfl) | (simp [*, errW_none, errW_some] <;> rfl), belx HB⟩
            rw [if_pos c80] at H
            have c80b0 : (t305 == 0) = true := beq_iff_eq.mpr c80
            have c80b1 : (t305 != 0) = false := bne_eq_false_iff_eq.mpr c80
            clear c80
            by_cases c81 : t310 = t300
            case neg =>
              rw [if_neg c81] at H
              have c81b0 : (t310 == t300) = false := beq_eq_false_iff_ne.mpr c81
              have c81b1 : (t310 != t300) = true := bne_iff_ne.mpr c81
              as_aux_lemma =>
                obtain rfl := Option.some.inj H
                go_wp2_with (first | (go_at_call 11; (with_reducible refine (lex_Read.calls kj60 (a0.extract 0 (t301 : Int).toNat) t304 t305 t306 _ ?side1 A76.out).mono ?_); (case side1 => exact (by repeat (first | exact hL_ | apply LaidW.drewN | apply LaidW.drew | refine LaidW.below hL_ (belx HB)))); rintro e w84 ⟨v307, rfl, ho0, hb⟩; have n0_ := Aside0.mk (Kd.R_lower ho0 (below_size (belx HB))); have n1_ := Aside0.mk (below_step (belx HB) hb); clear HB; have HO308 := n0_; have HB := n1_; clear n0_ n1_; (try clear hb); (try clear hb2); (try clear hk); (try clear hi); (try clear ho0)) | (go_at_call 11; (with_reducible refine (lex_Read.calls kj60 (a0.extract (t301 : Int).toNat a0.size) t309 t310 t311 _ ?side1 A79.out).mono ?_); (case side1 => exact (by repeat (first | exact hL_ | apply LaidW.drewN | apply LaidW.drew | refine LaidW.below hL_ (belx HB)))); rintro e w85 ⟨v312, rfl, ho0, hb⟩; have n0_ := Aside0.mk (Kd.R_elder' (by (with_reducible repeat (first | apply Kd.R_alloc | apply Kd.R_drewN | apply Kd.R_drew)); exact HO308.out) (Kd.R_base ho0) hb); have n1_ := Aside0.mk (Kd.R_lower (Kd.R_new' ho0 (Kd.R_lt (by (with_reducible repeat (first | apply Kd.R_alloc | apply Kd.R_drewN | apply Kd.R_drew)); exact HO308.out))) (below_size (belx HB))); have n2_ := Aside0.mk (below_step (belx HB) hb); clear HO308; clear HB; have HO308 := n0_; have HO313 := n1_; have HB := n2_; clear n0_ n1_ n2_; (try clear hb); (try clear hb2); (try clear hk); (try clear hi); (try clear ho0)))
                repeat (go_quiet (first | (go_at_call 11; (with_reducible refine (lex_Read.calls kj60 (a0.extract 0 (t301 : Int).toNat) t304 t305 t306 _ ?side1 A76.out).mono ?_); (case side1 => exact (by repeat (first | exact hL_ | apply LaidW.drewN | apply LaidW.drew | refine LaidW.below hL_ (belx HB)))); rintro e w84 ⟨v307, rfl, ho0, hb⟩; have n0_ := Aside0.mk (Kd.R_lower ho0 (below_size (belx HB))); have n1_ := Aside0.mk (below_step (belx HB) hb); clear HB; have HO308 := n0_; have HB := n1_; clear n0_ n1_; (try clear hb); (try clear hb2); (try clear hk); (try clear hi); (try clear ho0)) | (go_at_call 11; (with_reducible refine (lex_Read.calls kj60 (a0.extract (t301 : Int).toNat a0.size) t309 t310 t311 _ ?side1 A79.out).mono ?_); (case side1 => exact (by repeat (first | exact hL_ | apply LaidW.drewN | apply LaidW.drew | refine LaidW.below hL_ (belx HB)))); rintro e w85 ⟨v312, rfl, ho0, hb⟩; have n0_ := Aside0.mk (Kd.R_elder' (by (with_reducible repeat (first | apply Kd.R_alloc | apply Kd.R_drewN | apply Kd.R_drew)); exact HO308.out) (Kd.R_base ho0) hb); have n1_ := Aside0.mk (Kd.R_lower (Kd.R_new' ho0 (Kd.R_lt (by (with_reducible repeat (first | apply Kd.R_alloc | apply Kd.R_drewN | apply Kd.R_drew)); exact HO308.out))) (below_size (belx HB))); have n2_ := Aside0.mk (below_step (belx HB) hb); clear HO308; clear HB; have HO308 := n0_; have HO313 := n1_; have HB := n2_; clear n0_ n1_ n2_; (try clear hb); (try clear hb2); (try clear hk); (try clear hi); (try clear ho0))); try go_wp2_with (first | (go_at_call 11; (with_reducible refine (lex_Read.calls kj60 (a0.extract 0 (t301 : Int).toNat) t304 t305 t306 _ ?side1 A76.out).mono ?_); (case side1 => exact (by repeat (first | exact hL_ | apply LaidW.drewN | apply LaidW.drew | refine LaidW.below hL_ (belx HB)))); rintro e w84 ⟨v307, rfl, ho0, hb⟩; have n0_ := Aside0.mk (Kd.R_lower ho0 (below_size (belx HB))); have n1_ := Aside0.mk (below_step (belx HB) hb); clear HB; have HO308 := n0_; have HB := n1_; clear n0_ n1_; (try clear hb); (try clear hb2); (try clear hk); (try clear hi); (try clear ho0)) | (go_at_call 11; (with_reducible refine (lex_Read.calls kj60 (a0.extract (t301 : Int).toNat a0.size) t309 t310 t311 _ ?side1 A79.out).mono ?_); (case side1 => exact (by repeat (first | exact hL_ | apply LaidW.drewN | apply LaidW.drew | refine LaidW.below hL_ (belx HB)))); rintro e w85 ⟨v312, rfl, ho0, hb⟩; have n0_ := Aside0.mk (Kd.R_elder' (by (with_reducible repeat (first | apply Kd.R_alloc | apply Kd.R_drewN | apply Kd.R_drew)); exact HO308.out) (Kd.R_base ho0) hb); have n1_ := Aside0.mk (Kd.R_lower (Kd.R_new' ho0 (Kd.R_lt (by (with_reducible repeat (first | apply Kd.R_alloc | apply Kd.R_drewN | apply Kd.R_drew)); exact HO308.out))) (below_size (belx HB))); have n2_ := Aside0.mk (below_step (belx HB) hb); clear HO308; clear HB; have HO308 := n0_; have HO313 := n1_; have HB := n2_; clear n0_ n1_ n2_; (try clear hb); (try clear hb2); (try clear hk); (try clear hi); (try clear ho0))))
                go_ret
                exact ⟨by first | rfl | (simp [errW_none, errW_some] <;> rfl) | (simp [*, errW_none, errW_some] <;> rfl), belx HB⟩
            rw [if_pos c81] at H
            have c81b0 : (t310 == t300) = true := beq_iff_eq.mpr c81
            have c81b1 : (t310 != t300) = false := bne_eq_false_iff_eq.mpr c81
            clear c81
            as_aux_lemma =>
              obtain rfl := Option.some.inj H
              go_wp2_with (first | (go_at_call 11; (with_reducible refine (lex_Read.calls kj60 (a0.extract 0 (t301 : Int).toNat) t304 t305 t306 _ ?side1 A76.out).mono ?_); (case side1 => exact (by repeat (first | exact hL_ | apply LaidW.drewN | apply LaidW.drew | refine LaidW.below hL_ (belx HB)))); rintro e w82 ⟨v307, rfl, ho0, hb⟩; have n0_ := Aside0.mk (Kd.R_lower ho0 (below_size (belx HB))); have n1_ := Aside0.mk (below_step (belx HB) hb); clear HB; have HO308 := n0_; have HB := n1_; clear n0_ n1_; (try clear hb); (try clear hb2); (try clear hk); (try clear hi); (try clear ho0)) | (go_at_call 11; (with_reducible refine (lex_Read.calls kj60 (a0.extract (t301 : Int).toNat a0.size) t309 t310 t311 _ ?side1 A79.out).mono ?_); (case side1 => exact (by repeat (first | exact hL_ | apply LaidW.drewN | apply LaidW.drew | refine LaidW.below hL_ (belx HB)))); rintro e w83 ⟨v312, rfl, ho0, hb⟩; have n0_ := Aside0.mk (Kd.R_elder' (by (with_reducible repeat (first | apply Kd.R_alloc | apply Kd.R_drewN | apply Kd.R_drew)); exact HO308.out) (Kd.R_base ho0) hb); have n1_ := Aside0.mk (Kd.R_lower (Kd.R_new' ho0 (Kd.R_lt (by (with_reducible repeat (first | apply Kd.R_alloc | apply Kd.R_drewN | apply Kd.R_drew)); exact HO308.out))) (below_size (belx HB))); have n2_ := Aside0.mk (below_step (belx HB) hb); clear HO308; clear HB; have HO308 := n0_; have HO313 := n1_; have HB := n2_; clear n0_ n1_ n2_; (try clear hb); (try clear hb2); (try clear hk); (try clear hi); (try clear ho0)))
              repeat (go_quiet (first | (go_at_call 11; (with_reducible refine (lex_Read.calls kj60 (a0.extract 0 (t301 : Int).toNat) t304 t305 t306 _ ?side1 A76.out).mono ?_); (case side1 => exact (by repeat (first | exact hL_ | apply LaidW.drewN | apply LaidW.drew | refine LaidW.below hL_ (belx HB)))); rintro e w82 ⟨v307, rfl, ho0, hb⟩; have n0_ := Aside0.mk (Kd.R_lower ho0 (below_size (belx HB))); have n1_ := Aside0.mk (below_step (belx HB) hb); clear HB; have HO308 := n0_; have HB := n1_; clear n0_ n1_; (try clear hb); (try clear hb2); (try clear hk); (try clear hi); (try clear ho0)) | (go_at_call 11; (with_reducible refine (lex_Read.calls kj60 (a0.extract (t301 : Int).toNat a0.size) t309 t310 t311 _ ?side1 A79.out).mono ?_); (case side1 => exact (by repeat (first | exact hL_ | apply LaidW.drewN | apply LaidW.drew | refine LaidW.below hL_ (belx HB)))); rintro e w83 ⟨v312, rfl, ho0, hb⟩; have n0_ := Aside0.mk (Kd.R_elder' (by (with_reducible repeat (first | apply Kd.R_alloc | apply Kd.R_drewN | apply Kd.R_drew)); exact HO308.out) (Kd.R_base ho0) hb); have n1_ := Aside0.mk (Kd.R_lower (Kd.R_new' ho0 (Kd.R_lt (by (with_reducible repeat (first | apply Kd.R_alloc | apply Kd.R_drewN | apply Kd.R_drew)); exact HO308.out))) (below_size (belx HB))); have n2_ := Aside0.mk (below_step (belx HB) hb); clear HO308; clear HB; have HO308 := n0_; have HO313 := n1_; have HB := n2_; clear n0_ n1_ n2_; (try clear hb); (try clear hb2); (try clear hk); (try clear hi); (try clear ho0))); try go_wp2_with (first | (go_at_call 11; (with_reducible refine (lex_Read.calls kj60 (a0.extract 0 (t301 : Int).toNat) t304 t305 t306 _ ?side1 A76.out).mono ?_); (case side1 => exact (by repeat (first | exact hL_ | apply LaidW.drewN | apply LaidW.drew | refine LaidW.below hL_ (belx HB)))); rintro e w82 ⟨v307, rfl, ho0, hb⟩; have n0_ := Aside0.mk (Kd.R_lower ho0 (below_size (belx HB))); have n1_ := Aside0.mk (below_step (belx HB) hb); clear HB; have HO308 := n0_; have HB := n1_; clear n0_ n1_; (try clear hb); (try clear hb2); (try clear hk); (try clear hi); (try clear ho0)) | (go_at_call 11; (with_reducible refine (lex_Read.calls kj60 (a0.extract (t301 : Int).toNat a0.size) t309 t310 t311 _ ?side1 A79.out).mono ?_); (case side1 => exact (by repeat (first | exact hL_ | apply LaidW.drewN | apply LaidW.drew | refine LaidW.below hL_ (belx HB)))); rintro e w83 ⟨v312, rfl, ho0, hb⟩; have n0_ := Aside0.mk (Kd.R_elder' (by (with_reducible repeat (first | apply Kd.R_alloc | apply Kd.R_drewN | apply Kd.R_drew)); exact HO308.out) (Kd.R_base ho0) hb); have n1_ := Aside0.mk (Kd.R_lower (Kd.R_new' ho0 (Kd.R_lt (by (with_reducible repeat (first | apply Kd.R_alloc | apply Kd.R_drewN | apply Kd.R_drew)); exact HO308.out))) (below_size (belx HB))); have n2_ := Aside0.mk (below_step (belx HB) hb); clear HO308; clear HB; have HO308 := n0_; have HO313 := n1_; have HB := n2_; clear n0_ n1_ n2_; (try clear hb); (try clear hb2); (try clear hk); (try clear hi); (try clear ho0))))
              go_ret
              exact ⟨by first | rfl | (simp [errW_none, errW_some] <;> rfl) | (simp [*, errW_none, errW_some] <;> rfl), belx HB⟩
      rw [if_pos c11] at H
      have c11b0 : (t300 == 0) = true := beq_iff_eq.mpr c11
      have c11b1 : (t300 != 0) = false := bne_eq_false_iff_eq.mpr c11
      clear c11
      have HC12 := Aside0.mk H
      clear H
      go_upto_region 10 with (first | (go_at_call 11; (with_reducible refine (lex_Read.calls kj1 a0 t299 t300 t301 _ ?side1 A10.out).mono ?_); (case side1 => exact (by repeat (first | exact hL_ | apply LaidW.drewN | apply LaidW.drew | refine LaidW.below hL_ (belx HB)))); rintro e w13 ⟨v302, rfl, ho0, hb⟩; have n0_ := Aside0.mk (Kd.R_lower ho0 (below_size (belx HB))); have n1_ := Aside0.mk (below_step (belx HB) hb); clear HB; have HO303 := n0_; have HB := n1_; clear n0_ n1_; (try clear hb); (try clear hb2); (try clear hk); (try clear hi); (try clear ho0)))
      repeat (go_quiet (first | (go_at_call 11; (with_reducible refine (lex_Read.calls kj1 a0 t299 t300 t301 _ ?side1 A10.out).mono ?_); (case side1 => exact (by repeat (first | exact hL_ | apply LaidW.drewN | apply LaidW.drew | refine LaidW.below hL_ (belx HB)))); rintro e w13 ⟨v302, rfl, ho0, hb⟩; have n0_ := Aside0.mk (Kd.R_lower ho0 (below_size (belx HB))); have n1_ := Aside0.mk (below_step (belx HB) hb); clear HB; have HO303 := n0_; have HB := n1_; clear n0_ n1_; (try clear hb); (try clear hb2); (try clear hk); (try clear hi); (try clear ho0))); go_upto_region 10 with (first | (go_at_call 11; (with_reducible refine (lex_Read.calls kj1 a0 t299 t300 t301 _ ?side1 A10.out).mono ?_); (case side1 => exact (by repeat (first | exact hL_ | apply LaidW.drewN | apply LaidW.drew | refine LaidW.below hL_ (belx HB)))); rintro e w13 ⟨v302, rfl, ho0, hb⟩; have n0_ := Aside0.mk (Kd.R_lower ho0 (below_size (belx HB))); have n1_ := Aside0.mk (below_step (belx HB) hb); clear HB; have HO303 := n0_; have HB := n1_; clear n0_ n1_; (try clear hb); (try clear hb2); (try clear hk); (try clear hi); (try clear ho0))))
      (try simp only [Act.put, List.setIfInBounds_toArray, List.set_cons_zero, List.set_cons_succ])
      go_cut [104] (fun v104 wc => ∃ (kq : Nat) (x104_11 : Bool), v104 = .bool x104_11 ∧ Aside0 (scantlinglaw03_LexWhole.j2 kq a0 t299 x104_11 = some r) ∧ Aside0 (kq ≤ kj1) ∧ Aside0 (Kd.R k35 35 wc w.heap.size (fun _ => True) v302 t299) ∧ Aside0 (Below w.heap.size w wc))
      case first =>
        have H := HC12.out
        clear HC12
        by_cases c14 : t301 = 0
        · rw [if_pos c14] at H
          have c14b0 : (t301 == 0) = true := beq_iff_eq.mpr c14
          have c14b1 : (t301 != 0) = false := bne_eq_false_iff_eq.mpr c14
          clear c14
          (first | rw [c14b0] | (simp only [i64_w, i32_w]; rw [c14b0]) | skip)
          by_cases c15 : (t299.length : Int) = 0
          · rw [if_pos c15] at H
            have c15b0 : ((t299.length : Int) == 0) = true := beq_iff_eq.mpr c15
            have c15b1 : ((t299.length : Int) != 0) = false := bne_eq_false_iff_eq.mpr c15
            clear c15
            as_aux_lemma =>
              have H' := Aside0.mk H
              clear H
              obtain ⟨Ao16, co16, eo16⟩ := Kd.R_slice HO303.out
              subst eo16
              go_wp2
              repeat (go_quiet (fail); try go_wp2)
              go_meet
              case rel => exact ⟨_, (true), (by first | rfl | (simp; done) | (simp [*]; done) | exact congrArg (Value.int .i64) (by unfold wrap64; omega)), (by first | exact H' | (subst_vars; exact H')), ⟨by have := HJ1.out; first | omega | exact Nat.le_refl _⟩, ⟨by (with_reducible repeat (first | apply Kd.R_alloc | apply Kd.R_drewN | apply Kd.R_drew)); exact HO303.out⟩, ⟨belx HB⟩⟩
          · rw [if_neg c15] at H
            have c15b0 : ((t299.length : Int) == 0) = false := beq_eq_false_iff_ne.mpr c15
            have c15b1 : ((t299.length : Int) != 0) = true := bne_iff_ne.mpr c15
            have c15b2 : ¬ (t299 = []) := fun h_ => c15 (by rw [h_]; rfl)
            obtain ⟨ji17, hji17⟩ : ∃ j_ : Int, (wrap64 ((t299.length : Int) - 1)) = j_ := ⟨_, rfl⟩
            replace H : (if 0 ≤ (ji17) then (if (ji17) < (t299.length : Int) then (if ((rd_T35 t299 (ji17)).f0) = 10 then (scantlinglaw03_LexWhole.j2 kj1 a0 t299 (((rd_T35 t299 (ji17)).f1) != (a0.size : Int))) else (scantlinglaw03_LexWhole.j2 kj1 a0 t299 true)) else (none)) else (none)) = some r := by first | (rw [hji17] at H; exact H) | (simp only [hji17] at H ⊢; exact H)
            have hji17w : (IntKind.i64.wrap ((t299.length : Int) - 1)) = ji17 := (i64_w _).trans hji17
            by_cases c18 : 0 ≤ (ji17)
            · rw [if_pos c18] at H
              have c18b0 : decide (0 ≤ (ji17)) = true := decide_eq_true c18
              clear c18
              by_cases c19 : (ji17) < (t299.length : Int)
              · rw [if_pos c19] at H
                have c19b0 : decide ((ji17) < (t299.length : Int)) = true := decide_eq_true c19
                clear c19
                by_cases c20 : ((rd_T35 t299 (ji17)).f0) = 10
                · rw [if_pos c20] at H
                  have c20b0 : (((rd_T35 t299 (ji17)).f0) == 10) = true := beq_iff_eq.mpr c20
                  have c20b1 : (((rd_T35 t299 (ji17)).f0) != 10) = false := bne_eq_false_iff_eq.mpr c20
                  clear c20
                  as_aux_lemma =>
                    have H' := Aside0.mk H
                    clear H
                    obtain ⟨Ao21, co21, eo21⟩ := Kd.R_slice HO303.out
                    subst eo21
                    have p314 : 0 ≤ ((ji17) : Int) := odt
                    have q314 : (ji17) < (t299.length : Int) := odt
                    obtain ⟨ad314, e314, hx314_0, hx314_1, hx314_2, hx314_3, hx314_4, hx314_5, hx314_6, hx314_7, hx314_8⟩ := at_T35 (Kd.R_reads' HO303.out).2.2 (ji17) p314 q314
                    cases e314
                    replace p314 := eq_true p314
                    replace q314 := eq_true q314
                    have p315 : 0 ≤ ((ji17) : Int) := odt
                    have q315 : (ji17) < (t299.length : Int) := odt
                    obtain ⟨ad315, e315, hx315_0, hx315_1, hx315_2, hx315_3, hx315_4, hx315_5, hx315_6, hx315_7, hx315_8⟩ := at_T35 (Kd.R_reads' HO303.out).2.2 (ji17) p315 q315
                    obtain rfl : ad314 = ad315 := (by injection e315)
                    replace p315 := eq_true p315
                    replace q315 := eq_true q315
                    go_wp2
                    repeat (go_quiet (fail); try go_wp2)
                    go_meet
                    case rel => exact ⟨_, ((((rd_T35 t299 (ji17)).f1) != (a0.size : Int))), (by first | rfl | (simp; done) | (simp only [← hji17] <;> (first | rfl | (simp; done))) | (simp [*]; done)), (by first | exact H' | (subst_vars; exact H')), ⟨by have := HJ1.out; first | omega | exact Nat.le_refl _⟩, ⟨by (with_reducible repeat (first | apply Kd.R_alloc | apply Kd.R_drewN | apply Kd.R_drew)); exact HO303.out⟩, ⟨belx HB⟩⟩
                · rw [if_neg c20] at H
                  have c20b0 : (((rd_T35 t299 (ji17)).f0) == 10) = false := beq_eq_false_iff_ne.mpr c20
                  have c20b1 : (((rd_T35 t299 (ji17)).f0) != 10) = true := bne_iff_ne.mpr c20
                  as_aux_lemma =>
                    have H' := Aside0.mk H
                    clear H
                    obtain ⟨Ao22, co22, eo22⟩ := Kd.R_slice HO303.out
                    subst eo22
                    have p314 : 0 ≤ ((ji17) : Int) := odt
                    have q314 : (ji17) < (t299.length : Int) := odt
                    obtain ⟨ad314, e314, hx314_0, hx314_1, hx314_2, hx314_3, hx314_4, hx314_5, hx314_6, hx314_7, hx314_8⟩ := at_T35 (Kd.R_reads' HO303.out).2.2 (ji17) p314 q314
                    cases e314
                    replace p314 := eq_true p314
                    replace q314 := eq_true q314
                    go_wp2
                    repeat (go_quiet (fail); try go_wp2)
                    go_meet
                    case rel => exact ⟨_, (true), (by first | rfl | (simp; done) | (simp [*]; done) | exact congrArg (Value.int .i64) (by unfold wrap64; omega)), (by first | exact H' | (subst_vars; exact H')), ⟨by have := HJ1.out; first | omega | exact Nat.le_refl _⟩, ⟨by (with_reducible repeat (first | apply Kd.R_alloc | apply Kd.R_drewN | apply Kd.R_drew)); exact HO303.out⟩, ⟨belx HB⟩⟩
              · rw [if_neg c19] at H
                exact absurd H (by simp)
            · rw [if_neg c18] at H
              exact absurd H (by simp)
        · rw [if_neg c14] at H
          have c14b0 : (t301 == 0) = false := beq_eq_false_iff_ne.mpr c14
          have c14b1 : (t301 != 0) = true := bne_iff_ne.mpr c14
          (first | rw [c14b0] | (simp only [i64_w, i32_w]; rw [c14b0]) | skip)
          as_aux_lemma =>
            have H' := Aside0.mk H
            clear H
            go_wp2
            repeat (go_quiet (fail); try go_wp2)
            go_meet
            case rel => exact ⟨_, (true), (by first | rfl | (simp; done) | (simp [*]; done) | exact congrArg (Value.int .i64) (by unfold wrap64; omega)), (by first | exact H' | (subst_vars; exact H')), ⟨by have := HJ1.out; first | omega | exact Nat.le_refl _⟩, ⟨by (with_reducible repeat (first | apply Kd.R_alloc | apply Kd.R_drewN | apply Kd.R_drew)); exact HO303.out⟩, ⟨belx HB⟩⟩
      case rest =>
        clear HC12
        try clear c7; try clear c11; try clear c11b0; try clear c11b1
        obtain ⟨kq, x104_11, rfl, HA, HJ11, HO_3, HB⟩ := hcut
        cases kq with
        | zero => exact absurd HA.out (by simp [scantlinglaw03_LexWhole.j2])
        | succ kj11 =>
          have H := HA.out
          clear HA
          simp only [scantlinglaw03_LexWhole.j2] at H
          by_cases c23 : x104_11 = true
          case pos =>
            subst c23
            have H1 : (some false) = some r := by rw [if_pos rfl] at H; exact H
            clear H
            have H := H1
            clear H1
            as_aux_lemma =>
              obtain rfl := Option.some.inj H
              go_wp2
              repeat (go_quiet (fail); try go_wp2)
              go_ret
              exact ⟨by first | rfl | (simp [errW_none, errW_some] <;> rfl) | (simp [*, errW_none, errW_some] <;> rfl), belx HB⟩
          replace c23 := Bool.eq_false_iff.mpr c23
          subst c23
          have H1 : (scantlinglaw03_LexWhole.l0 kj11 a0 t299 0) = some r := by rw [if_neg (show ¬ (false = true) by decide)] at H; exact H
          clear H
          have H := H1
          clear H1
          have H' := Aside0.mk H
          clear H
          go_wp2
          repeat (go_quiet (fail); try go_wp2)
          go_loopg [12] kj11 (fun kq v12 w' => ∃ (x12_3 : Int), v12 = .int .i64 x12_3 ∧ Aside0 (scantlinglaw03_LexWhole.l0 kq a0 t299 x12_3 = some r) ∧ Aside0 (kq ≤ kj11) ∧ Aside0 (Kd.R k35 35 w' w.heap.size (fun _ => True) v302 t299) ∧ Aside0 (Below w.heap.size w w'))
          case atStart => exact ⟨(0), (by first | rfl | (simp; done) | (simp [*]; done) | exact congrArg (Value.int .i64) (by unfold wrap64; omega)), (by first | exact H' | (subst_vars; exact H')), ⟨Nat.le_refl _⟩, ⟨by (with_reducible repeat (first | apply Kd.R_alloc | apply Kd.R_drewN | apply Kd.R_drew)); exact HO_3.out⟩, ⟨belx HB⟩⟩
          case round =>
            clear H'
            try clear c7; try clear c11; try clear c11b0; try clear c11b1; try clear c23
            obtain ⟨x12_3, rfl, HA, HK3, HO_3, HB⟩ := hrel
            cases gk with
            | zero => exact absurd HA.out (by simp [scantlinglaw03_LexWhole.l0])
            | succ k3 =>
              have H := HA.out
              clear HA
              simp only [scantlinglaw03_LexWhole.l0] at H
              by_cases c24 : x12_3 < (t299.length : Int)
              case neg =>
                rw [if_neg c24] at H
                have c24b0 : decide (x12_3 < (t299.length : Int)) = false := decide_eq_false c24
                clear c24
                have H' := Aside0.mk H
                clear H
                obtain ⟨Ao54, co54, eo54⟩ := Kd.R_slice HO_3.out
                subst eo54
                go_wp2
                repeat (go_quiet (fail); try go_wp2)
                go_loopg [13] k3 (fun kq v13 w' => ∃ (x13_4 : Int), v13 = .int .i64 x13_4 ∧ Aside0 (scantlinglaw03_LexWhole.l1 kq a0 t299 x13_4 = some r) ∧ Aside0 (kq ≤ k3) ∧ Aside0 (Kd.R k35 35 w' w.heap.size (fun _ => True) (.slice Ao54 t299.length co54) t299) ∧ Aside0 (Below w.heap.size w w'))
                case atStart => exact ⟨(0), (by first | rfl | (simp; done) | (simp [*]; done) | exact congrArg (Value.int .i64) (by unfold wrap64; omega)), (by first | exact H' | (subst_vars; exact H')), ⟨Nat.le_refl _⟩, ⟨by (with_reducible repeat (first | apply Kd.R_alloc | apply Kd.R_drewN | apply Kd.R_drew)); exact HO_3.out⟩, ⟨belx HB⟩⟩
                case round =>
                  clear H'
                  try clear c7; try clear c11; try clear c11b0; try clear c11b1; try clear c23; try clear c24; try clear c24b0
                  obtain ⟨x13_4, rfl, HA, HK4, HO_3, HB⟩ := hrel
                  cases gk with
                  | zero => exact absurd HA.out (by simp [scantlinglaw03_LexWhole.l1])
                  | succ k4 =>
                    have H := HA.out
                    clear HA
                    simp only [scantlinglaw03_LexWhole.l1] at H
                    by_cases c55 : 0 < (t299.length : Int)
                    case neg => rw [if_neg c55] at H; exact absurd H (by simp)
                    rw [if_pos c55] at H
                    have c55b0 : decide (0 < (t299.length : Int)) = true := decide_eq_true c55
                    have c55b1 : decide (0 < t299.length) = true := decide_eq_true (by omega)
                    clear c55
                    by_cases c56 : x13_4 < ((rd_T35 t299 0).f1)
                    case neg =>
                      rw [if_neg c56] at H
                      have c56b0 : decide (x13_4 < ((rd_T35 t299 0).f1)) = false := decide_eq_false c56
                      clear c56
                      as_aux_lemma =>
                        obtain rfl := Option.some.inj H
                        have p325 : 0 ≤ (0 : Int) := (by omega)
                        have q325 : 0 < (t299.length : Int) := odt
                        obtain ⟨ad325, e325, hx325_0, hx325_1, hx325_2, hx325_3, hx325_4, hx325_5, hx325_6, hx325_7, hx325_8⟩ := at_T35 (Kd.R_reads' HO_3.out).2.2 0 p325 q325
                        cases e325
                        have qi325 : (0 < t299.length) = True := eq_true (by omega)
                        (try rw [show ((0 : Int)).toNat = 0 from rfl] at hx325_0)
                        (try rw [show 0 * 9 = 0 from rfl] at hx325_0)
                        (try rw [Addr.add_zero'] at hx325_0)
                        (try rw [show ((0 : Int)).toNat = 0 from rfl] at hx325_1)
                        (try rw [show 0 * 9 = 0 from rfl] at hx325_1)
                        (try rw [Addr.add_zero'] at hx325_1)
                        (try rw [show ((0 : Int)).toNat = 0 from rfl] at hx325_2)
                        (try rw [show 0 * 9 = 0 from rfl] at hx325_2)
                        (try rw [Addr.add_zero'] at hx325_2)
                        (try rw [show ((0 : Int)).toNat = 0 from rfl] at hx325_3)
                        (try rw [show 0 * 9 = 0 from rfl] at hx325_3)
                        (try rw [Addr.add_zero'] at hx325_3)
                        (try rw [show ((0 : Int)).toNat = 0 from rfl] at hx325_4)
                        (try rw [show 0 * 9 = 0 from rfl] at hx325_4)
                        (try rw [Addr.add_zero'] at hx325_4)
                        (try rw [show ((0 : Int)).toNat = 0 from rfl] at hx325_5)
                        (try rw [show 0 * 9 = 0 from rfl] at hx325_5)
                        (try rw [Addr.add_zero'] at hx325_5)
                        (try rw [show ((0 : Int)).toNat = 0 from rfl] at hx325_6)
                        (try rw [show 0 * 9 = 0 from rfl] at hx325_6)
                        (try rw [Addr.add_zero'] at hx325_6)
                        (try rw [show ((0 : Int)).toNat = 0 from rfl] at hx325_7)
                        (try rw [show 0 * 9 = 0 from rfl] at hx325_7)
                        (try rw [Addr.add_zero'] at hx325_7)
                        (try rw [show ((0 : Int)).toNat = 0 from rfl] at hx325_8)
                        (try rw [show 0 * 9 = 0 from rfl] at hx325_8)
                        (try rw [Addr.add_zero'] at hx325_8)
                        replace p325 := eq_true p325
                        replace q325 := eq_true q325
                        go_wp2
                        repeat (go_quiet (fail); try go_wp2)
                        go_ret
                        exact ⟨by first | rfl | (simp [errW_none, errW_some] <;> rfl) | (simp [*, errW_none, errW_some] <;> rfl), belx HB⟩
                    rw [if_pos c56] at H
                    have c56b0 : decide (x13_4 < ((rd_T35 t299 0).f1)) = true := decide_eq_true c56
                    clear c56
                    by_cases c57 : 0 ≤ x13_4
                    case neg => rw [if_neg c57] at H; exact absurd H (by simp)
                    rw [if_pos c57] at H
                    have c57b0 : decide (0 ≤ x13_4) = true := decide_eq_true c57
                    clear c57
                    by_cases c58 : x13_4 < (a0.size : Int)
                    case neg => rw [if_neg c58] at H; exact absurd H (by simp)
                    rw [if_pos c58] at H
                    have c58b0 : decide (x13_4 < (a0.size : Int)) = true := decide_eq_true c58
                    clear c58
                    by_cases c60 : (bt a0 x13_4) = 32
                    case neg =>
                      rw [if_neg c60] at H
                      have c60b0 : ((bt a0 x13_4) == 32) = false := beq_eq_false_iff_ne.mpr c60
                      have c60b1 : ((bt a0 x13_4) != 32) = true := bne_iff_ne.mpr c60
                      as_aux_lemma =>
                        obtain rfl := Option.some.inj H
                        have p325 : 0 ≤ (0 : Int) := (by omega)
                        have q325 : 0 < (t299.length : Int) := odt
                        obtain ⟨ad325, e325, hx325_0, hx325_1, hx325_2, hx325_3, hx325_4, hx325_5, hx325_6, hx325_7, hx325_8⟩ := at_T35 (Kd.R_reads' HO_3.out).2.2 0 p325 q325
                        cases e325
                        have qi325 : (0 < t299.length) = True := eq_true (by omega)
                        (try rw [show ((0 : Int)).toNat = 0 from rfl] at hx325_0)
                        (try rw [show 0 * 9 = 0 from rfl] at hx325_0)
                        (try rw [Addr.add_zero'] at hx325_0)
                        (try rw [show ((0 : Int)).toNat = 0 from rfl] at hx325_1)
                        (try rw [show 0 * 9 = 0 from rfl] at hx325_1)
                        (try rw [Addr.add_zero'] at hx325_1)
                        (try rw [show ((0 : Int)).toNat = 0 from rfl] at hx325_2)
                        (try rw [show 0 * 9 = 0 from rfl] at hx325_2)
                        (try rw [Addr.add_zero'] at hx325_2)
                        (try rw [show ((0 : Int)).toNat = 0 from rfl] at hx325_3)
                        (try rw [show 0 * 9 = 0 from rfl] at hx325_3)
                        (try rw [Addr.add_zero'] at hx325_3)
                        (try rw [show ((0 : Int)).toNat = 0 from rfl] at hx325_4)
                        (try rw [show 0 * 9 = 0 from rfl] at hx325_4)
                        (try rw [Addr.add_zero'] at hx325_4)
                        (try rw [show ((0 : Int)).toNat = 0 from rfl] at hx325_5)
                        (try rw [show 0 * 9 = 0 from rfl] at hx325_5)
                        (try rw [Addr.add_zero'] at hx325_5)
                        (try rw [show ((0 : Int)).toNat = 0 from rfl] at hx325_6)
                        (try rw [show 0 * 9 = 0 from rfl] at hx325_6)
                        (try rw [Addr.add_zero'] at hx325_6)
                        (try rw [show ((0 : Int)).toNat = 0 from rfl] at hx325_7)
                        (try rw [show 0 * 9 = 0 from rfl] at hx325_7)
                        (try rw [Addr.add_zero'] at hx325_7)
                        (try rw [show ((0 : Int)).toNat = 0 from rfl] at hx325_8)
                        (try rw [show 0 * 9 = 0 from rfl] at hx325_8)
                        (try rw [Addr.add_zero'] at hx325_8)
                        replace p325 := eq_true p325
                        replace q325 := eq_true q325
                        have p59 : 0 ≤ (x13_4 : Int) := odt
                        have q59 : x13_4 < (a0.size : Int) := odt
                        have hx59 := bt_at a0 x13_4
                        replace p59 := eq_true p59
                        replace q59 := eq_true q59
                        go_wp2
                        repeat (go_quiet (fail); try go_wp2)
                        go_ret
                        exact ⟨by first | rfl | (simp [errW_none, errW_some] <;> rfl) | (simp [*, errW_none, errW_some] <;> rfl), belx HB⟩
                    rw [if_pos c60] at H
                    have c60b0 : ((bt a0 x13_4) == 32) = true := beq_iff_eq.mpr c60
                    have c60b1 : ((bt a0 x13_4) != 32) = false := bne_eq_false_iff_eq.mpr c60
                    clear c60
                    as_aux_lemma =>
                      have H' := Aside0.mk H
                      clear H
                      have p325 : 0 ≤ (0 : Int) := (by omega)
                      have q325 : 0 < (t299.length : Int) := odt
                      obtain ⟨ad325, e325, hx325_0, hx325_1, hx325_2, hx325_3, hx325_4, hx325_5, hx325_6, hx325_7, hx325_8⟩ := at_T35 (Kd.R_reads' HO_3.out).2.2 0 p325 q325
                      cases e325
                      have qi325 : (0 < t299.length) = True := eq_true (by omega)
                      (try rw [show ((0 : Int)).toNat = 0 from rfl] at hx325_0)
                      (try rw [show 0 * 9 = 0 from rfl] at hx325_0)
                      (try rw [Addr.add_zero'] at hx325_0)
                      (try rw [show ((0 : Int)).toNat = 0 from rfl] at hx325_1)
                      (try rw [show 0 * 9 = 0 from rfl] at hx325_1)
                      (try rw [Addr.add_zero'] at hx325_1)
                      (try rw [show ((0 : Int)).toNat = 0 from rfl] at hx325_2)
                      (try rw [show 0 * 9 = 0 from rfl] at hx325_2)
                      (try rw [Addr.add_zero'] at hx325_2)
                      (try rw [show ((0 : Int)).toNat = 0 from rfl] at hx325_3)
                      (try rw [show 0 * 9 = 0 from rfl] at hx325_3)
                      (try rw [Addr.add_zero'] at hx325_3)
                      (try rw [show ((0 : Int)).toNat = 0 from rfl] at hx325_4)
                      (try rw [show 0 * 9 = 0 from rfl] at hx325_4)
                      (try rw [Addr.add_zero'] at hx325_4)
                      (try rw [show ((0 : Int)).toNat = 0 from rfl] at hx325_5)
                      (try rw [show 0 * 9 = 0 from rfl] at hx325_5)
                      (try rw [Addr.add_zero'] at hx325_5)
                      (try rw [show ((0 : Int)).toNat = 0 from rfl] at hx325_6)
                      (try rw [show 0 * 9 = 0 from rfl] at hx325_6)
                      (try rw [Addr.add_zero'] at hx325_6)
                      (try rw [show ((0 : Int)).toNat = 0 from rfl] at hx325_7)
                      (try rw [show 0 * 9 = 0 from rfl] at hx325_7)
                      (try rw [Addr.add_zero'] at hx325_7)
                      (try rw [show ((0 : Int)).toNat = 0 from rfl] at hx325_8)
                      (try rw [show 0 * 9 = 0 from rfl] at hx325_8)
                      (try rw [Addr.add_zero'] at hx325_8)
                      replace p325 := eq_true p325
                      replace q325 := eq_true q325
                      have p59 : 0 ≤ (x13_4 : Int) := odt
                      have q59 : x13_4 < (a0.size : Int) := odt
                      have hx59 := bt_at a0 x13_4
                      replace p59 := eq_true p59
                      replace q59 := eq_true q59
                      go_wp2
                      repeat (go_quiet (fail); try go_wp2)
                      go_roundg k4
                      case measure => have := HJ1.out; have := HJ11.out; have := HK3.out; have := HK4.out; omega
                      case rel => exact ⟨(wrap64 (x13_4 + 1)), (by first | rfl | (simp; done) | (simp [*]; done) | exact congrArg (Value.int .i64) (by unfold wrap64; omega)), (by first | exact H' | (subst_vars; exact H')), ⟨by have := HJ1.out; have := HJ11.out; have := HK3.out; have := HK4.out; omega⟩, ⟨by (with_reducible repeat (first | apply Kd.R_alloc | apply Kd.R_drewN | apply Kd.R_drew)); exact HO_3.out⟩, ⟨belx HB⟩⟩
              rw [if_pos c24] at H
              have c24b0 : decide (x12_3 < (t299.length : Int)) = true := decide_eq_true c24
              clear c24
              by_cases c25 : 0 ≤ x12_3
              case neg => rw [if_neg c25] at H; exact absurd H (by simp)
              rw [if_pos c25] at H
              have c25b0 : decide (0 ≤ x12_3) = true := decide_eq_true c25
              clear c25
              by_cases c26 : ((rd_T35 t299 x12_3).f0) < 1
              case pos =>
                rw [if_pos c26] at H
                have c26b0 : decide (((rd_T35 t299 x12_3).f0) < 1) = true := decide_eq_true c26
                clear c26
                as_aux_lemma =>
                  obtain rfl := Option.some.inj H
                  obtain ⟨Ao27, co27, eo27⟩ := Kd.R_slice HO_3.out
                  subst eo27
                  have p316 : 0 ≤ (x12_3 : Int) := odt
                  have q316 : x12_3 < (t299.length : Int) := odt
                  obtain ⟨ad316, e316, hx316_0, hx316_1, hx316_2, hx316_3, hx316_4, hx316_5, hx316_6, hx316_7, hx316_8⟩ := at_T35 (Kd.R_reads' HO_3.out).2.2 x12_3 p316 q316
                  cases e316
                  replace p316 := eq_true p316
                  replace q316 := eq_true q316
                  go_wp2
                  repeat (go_quiet (fail); try go_wp2)
                  go_ret
                  exact ⟨by first | rfl | (simp [errW_none, errW_some] <;> rfl) | (simp [*, errW_none, errW_some] <;> rfl), belx HB⟩
              rw [if_neg c26] at H
              have c26b0 : decide (((rd_T35 t299 x12_3).f0) < 1) = false := decide_eq_false c26
              clear c26
              by_cases c28 : ((rd_T35 t299 x12_3).f0) > 10
              case pos =>
                rw [if_pos c28] at H
                have c28b0 : decide (10 < ((rd_T35 t299 x12_3).f0)) = true := decide_eq_true c28
                clear c28
                as_aux_lemma =>
                  obtain rfl := Option.some.inj H
                  obtain ⟨Ao29, co29, eo29⟩ := Kd.R_slice HO_3.out
                  subst eo29
                  have p316 : 0 ≤ (x12_3 : Int) := odt
                  have q316 : x12_3 < (t299.length : Int) := odt
                  obtain ⟨ad316, e316, hx316_0, hx316_1, hx316_2, hx316_3, hx316_4, hx316_5, hx316_6, hx316_7, hx316_8⟩ := at_T35 (Kd.R_reads' HO_3.out).2.2 x12_3 p316 q316
                  cases e316
                  replace p316 := eq_true p316
                  replace q316 := eq_true q316
                  have p317 : 0 ≤ (x12_3 : Int) := odt
                  have q317 : x12_3 < (t299.length : Int) := odt
                  obtain ⟨ad317, e317, hx317_0, hx317_1, hx317_2, hx317_3, hx317_4, hx317_5, hx317_6, hx317_7, hx317_8⟩ := at_T35 (Kd.R_reads' HO_3.out).2.2 x12_3 p317 q317
                  obtain rfl : ad316 = ad317 := (by injection e317)
                  replace p317 := eq_true p317
                  replace q317 := eq_true q317
                  go_wp2
                  repeat (go_quiet (fail); try go_wp2)
                  go_ret
                  exact ⟨by first | rfl | (simp [errW_none, errW_some] <;> rfl) | (simp [*, errW_none, errW_some] <;> rfl), belx HB⟩
              rw [if_neg c28] at H
              have c28b0 : decide (10 < ((rd_T35 t299 x12_3).f0)) = false := decide_eq_false c28
              clear c28
              by_cases c30 : ((((rd_T35 t299 x12_3).f0) == 10) != (x12_3 == (wrap64 ((t299.length : Int) - 1)))) = true
              case pos =>
                rw [if_pos c30] at H
                have c30b0 : ((((rd_T35 t299 x12_3).f0) == 10) != (x12_3 == (wrap64 ((t299.length : Int) - 1)))) = true := c30
                (try (have c30b1 : decide ((((rd_T35 t299 x12_3).f0) == 10) = (x12_3 == (wrap64 ((t299.length : Int) - 1)))) = false := by simpa using c30))
                (try (have c30b2 : ((((rd_T35 t299 x12_3).f0) == 10) == (x12_3 == (wrap64 ((t299.length : Int) - 1)))) = false := by simpa using c30))
                (try (have c30b3 : ¬ ((((rd_T35 t299 x12_3).f0) == 10) = (x12_3 == (wrap64 ((t299.length : Int) - 1)))) := by simpa using c30))
                clear c30
                as_aux_lemma =>
                  obtain rfl := Option.some.inj H
                  obtain ⟨Ao31, co31, eo31⟩ := Kd.R_slice HO_3.out
                  subst eo31
                  have p316 : 0 ≤ (x12_3 : Int) := odt
                  have q316 : x12_3 < (t299.length : Int) := odt
                  obtain ⟨ad316, e316, hx316_0, hx316_1, hx316_2, hx316_3, hx316_4, hx316_5, hx316_6, hx316_7, hx316_8⟩ := at_T35 (Kd.R_reads' HO_3.out).2.2 x12_3 p316 q316
                  cases e316
                  replace p316 := eq_true p316
                  replace q316 := eq_true q316
                  have p317 : 0 ≤ (x12_3 : Int) := odt
                  have q317 : x12_3 < (t299.length : Int) := odt
                  obtain ⟨ad317, e317, hx317_0, hx317_1, hx317_2, hx317_3, hx317_4, hx317_5, hx317_6, hx317_7, hx317_8⟩ := at_T35 (Kd.R_reads' HO_3.out).2.2 x12_3 p317 q317
                  obtain rfl : ad316 = ad317 := (by injection e317)
                  replace p317 := eq_true p317
                  replace q317 := eq_true q317
                  have p318 : 0 ≤ (x12_3 : Int) := odt
                  have q318 : x12_3 < (t299.length : Int) := odt
                  obtain ⟨ad318, e318, hx318_0, hx318_1, hx318_2, hx318_3, hx318_4, hx318_5, hx318_6, hx318_7, hx318_8⟩ := at_T35 (Kd.R_reads' HO_3.out).2.2 x12_3 p318 q318
                  obtain rfl : ad316 = ad318 := (by injection e318)
                  replace p318 := eq_true p318
                  replace q318 := eq_true q318
                  go_wp2
                  repeat (go_quiet (fail); try go_wp2)
                  go_ret
                  exact ⟨by first | rfl | (simp [errW_none, errW_some] <;> rfl) | (simp [*, errW_none, errW_some] <;> rfl), belx HB⟩
              rw [if_neg c30] at H
              have c30b0 : ((((rd_T35 t299 x12_3).f0) == 10) != (x12_3 == (wrap64 ((t299.length : Int) - 1)))) = false := by simpa using c30
              (try (have c30b1 : decide ((((rd_T35 t299 x12_3).f0) == 10) = (x12_3 == (wrap64 ((t299.length : Int) - 1)))) = true := by simpa using c30))
              (try (have c30b2 : ((((rd_T35 t299 x12_3).f0) == 10) == (x12_3 == (wrap64 ((t299.length : Int) - 1)))) = true := by simpa using c30))
              clear c30
              by_cases c32 : x12_3 > 0
              case neg =>
                rw [if_neg c32] at H
                have c32b0 : decide (0 < x12_3) = false := decide_eq_false c32
                clear c32
                by_cases c46 : ((rd_T35 t299 x12_3).f0) = 10
                case pos =>
                  rw [if_pos c46] at H
                  have c46b0 : (((rd_T35 t299 x12_3).f0) == 10) = true := beq_iff_eq.mpr c46
                  (try have c30zc46 : (x12_3 == (wrap64 ((t299.length : Int) - 1))) = true := by have h_ := c30b0; rw [c46b0] at h_; simpa using h_)
                  have c46b1 : (((rd_T35 t299 x12_3).f0) != 10) = false := bne_eq_false_iff_eq.mpr c46
                  clear c46
                  as_aux_lemma =>
                    have H' := Aside0.mk H
                    clear H
                    obtain ⟨Ao47, co47, eo47⟩ := Kd.R_slice HO_3.out
                    subst eo47
                    have p316 : 0 ≤ (x12_3 : Int) := odt
                    have q316 : x12_3 < (t299.length : Int) := odt
                    obtain ⟨ad316, e316, hx316_0, hx316_1, hx316_2, hx316_3, hx316_4, hx316_5, hx316_6, hx316_7, hx316_8⟩ := at_T35 (Kd.R_reads' HO_3.out).2.2 x12_3 p316 q316
                    cases e316
                    replace p316 := eq_true p316
                    replace q316 := eq_true q316
                    have p317 : 0 ≤ (x12_3 : Int) := odt
                    have q317 : x12_3 < (t299.length : Int) := odt
                    obtain ⟨ad317, e317, hx317_0, hx317_1, hx317_2, hx317_3, hx317_4, hx317_5, hx317_6, hx317_7, hx317_8⟩ := at_T35 (Kd.R_reads' HO_3.out).2.2 x12_3 p317 q317
                    obtain rfl : ad316 = ad317 := (by injection e317)
                    replace p317 := eq_true p317
                    replace q317 := eq_true q317
                    have p318 : 0 ≤ (x12_3 : Int) := odt
                    have q318 : x12_3 < (t299.length : Int) := odt
                    obtain ⟨ad318, e318, hx318_0, hx318_1, hx318_2, hx318_3, hx318_4, hx318_5, hx318_6, hx318_7, hx318_8⟩ := at_T35 (Kd.R_reads' HO_3.out).2.2 x12_3 p318 q318
                    obtain rfl : ad316 = ad318 := (by injection e318)
                    replace p318 := eq_true p318
                    replace q318 := eq_true q318
                    have p323 : 0 ≤ (x12_3 : Int) := odt
                    have q323 : x12_3 < (t299.length : Int) := odt
                    obtain ⟨ad323, e323, hx323_0, hx323_1, hx323_2, hx323_3, hx323_4, hx323_5, hx323_6, hx323_7, hx323_8⟩ := at_T35 (Kd.R_reads' HO_3.out).2.2 x12_3 p323 q323
                    obtain rfl : ad316 = ad323 := (by injection e323)
                    replace p323 := eq_true p323
                    replace q323 := eq_true q323
                    go_wp2
                    repeat (go_quiet (fail); try go_wp2)
                    go_roundg k3
                    case measure => have := HJ1.out; have := HJ11.out; have := HK3.out; omega
                    case rel => exact ⟨(wrap64 (x12_3 + 1)), (by first | rfl | (simp; done) | (simp [*]; done) | exact congrArg (Value.int .i64) (by unfold wrap64; omega)), (by first | exact H' | (subst_vars; exact H')), ⟨by have := HJ1.out; have := HJ11.out; have := HK3.out; omega⟩, ⟨by (with_reducible repeat (first | apply Kd.R_alloc | apply Kd.R_drewN | apply Kd.R_drew)); exact HO_3.out⟩, ⟨belx HB⟩⟩
                rw [if_neg c46] at H
                have c46b0 : (((rd_T35 t299 x12_3).f0) == 10) = false := beq_eq_false_iff_ne.mpr c46
                (try have c30zc46 : (x12_3 == (wrap64 ((t299.length : Int) - 1))) = false := by have h_ := c30b0; rw [c46b0] at h_; simpa using h_)
                have c46b1 : (((rd_T35 t299 x12_3).f0) != 10) = true := bne_iff_ne.mpr c46
                by_cases c48 : 0 ≤ ((rd_T35 t299 x12_3).f1)
                case neg => rw [if_neg c48] at H; exact absurd H (by simp)
                rw [if_pos c48] at H
                have c48b0 : decide (0 ≤ ((rd_T35 t299 x12_3).f1)) = true := decide_eq_true c48
                clear c48
                by_cases c49 : ((rd_T35 t299 x12_3).f1) < (a0.size : Int)
                case neg => rw [if_neg c49] at H; exact absurd H (by simp)
                rw [if_pos c49] at H
                have c49b0 : decide (((rd_T35 t299 x12_3).f1) < (a0.size : Int)) = true := decide_eq_true c49
                clear c49
                by_cases c51 : (bt a0 ((rd_T35 t299 x12_3).f1)) = 32
                case pos =>
                  rw [if_pos c51] at H
                  have c51b0 : ((bt a0 ((rd_T35 t299 x12_3).f1)) == 32) = true := beq_iff_eq.mpr c51
                  have c51b1 : ((bt a0 ((rd_T35 t299 x12_3).f1)) != 32) = false := bne_eq_false_iff_eq.mpr c51
                  clear c51
                  as_aux_lemma =>
                    obtain rfl := Option.some.inj H
                    obtain ⟨Ao52, co52, eo52⟩ := Kd.R_slice HO_3.out
                    subst eo52
                    have p316 : 0 ≤ (x12_3 : Int) := odt
                    have q316 : x12_3 < (t299.length : Int) := odt
                    obtain ⟨ad316, e316, hx316_0, hx316_1, hx316_2, hx316_3, hx316_4, hx316_5, hx316_6, hx316_7, hx316_8⟩ := at_T35 (Kd.R_reads' HO_3.out).2.2 x12_3 p316 q316
                    cases e316
                    replace p316 := eq_true p316
                    replace q316 := eq_true q316
                    have p317 : 0 ≤ (x12_3 : Int) := odt
                    have q317 : x12_3 < (t299.length : Int) := odt
                    obtain ⟨ad317, e317, hx317_0, hx317_1, hx317_2, hx317_3, hx317_4, hx317_5, hx317_6, hx317_7, hx317_8⟩ := at_T35 (Kd.R_reads' HO_3.out).2.2 x12_3 p317 q317
                    obtain rfl : ad316 = ad317 := (by injection e317)
                    replace p317 := eq_true p317
                    replace q317 := eq_true q317
                    have p318 : 0 ≤ (x12_3 : Int) := odt
                    have q318 : x12_3 < (t299.length : Int) := odt
                    obtain ⟨ad318, e318, hx318_0, hx318_1, hx318_2, hx318_3, hx318_4, hx318_5, hx318_6, hx318_7, hx318_8⟩ := at_T35 (Kd.R_reads' HO_3.out).2.2 x12_3 p318 q318
                    obtain rfl : ad316 = ad318 := (by injection e318)
                    replace p318 := eq_true p318
                    replace q318 := eq_true q318
                    have p323 : 0 ≤ (x12_3 : Int) := odt
                    have q323 : x12_3 < (t299.length : Int) := odt
                    obtain ⟨ad323, e323, hx323_0, hx323_1, hx323_2, hx323_3, hx323_4, hx323_5, hx323_6, hx323_7, hx323_8⟩ := at_T35 (Kd.R_reads' HO_3.out).2.2 x12_3 p323 q323
                    obtain rfl : ad316 = ad323 := (by injection e323)
                    replace p323 := eq_true p323
                    replace q323 := eq_true q323
                    have p324 : 0 ≤ (x12_3 : Int) := odt
                    have q324 : x12_3 < (t299.length : Int) := odt
                    obtain ⟨ad324, e324, hx324_0, hx324_1, hx324_2, hx324_3, hx324_4, hx324_5, hx324_6, hx324_7, hx324_8⟩ := at_T35 (Kd.R_reads' HO_3.out).2.2 x12_3 p324 q324
                    obtain rfl : ad316 = ad324 := (by injection e324)
                    replace p324 := eq_true p324
                    replace q324 := eq_true q324
                    have p50 : 0 ≤ (((rd_T35 t299 x12_3).f1) : Int) := odt
                    have q50 : ((rd_T35 t299 x12_3).f1) < (a0.size : Int) := odt
                    have hx50 := bt_at a0 ((rd_T35 t299 x12_3).f1)
                    replace p50 := eq_true p50
                    replace q50 := eq_true q50
                    go_wp2
                    repeat (go_quiet (fail); try go_wp2)
                    go_ret
                    exact ⟨by first | rfl | (simp [errW_none, errW_some] <;> rfl) | (simp [*, errW_none, errW_some] <;> rfl), belx HB⟩
                rw [if_neg c51] at H
                have c51b0 : ((bt a0 ((rd_T35 t299 x12_3).f1)) == 32) = false := beq_eq_false_iff_ne.mpr c51
                have c51b1 : ((bt a0 ((rd_T35 t299 x12_3).f1)) != 32) = true := bne_iff_ne.mpr c51
                as_aux_lemma =>
                  have H' := Aside0.mk H
                  clear H
                  obtain ⟨Ao53, co53, eo53⟩ := Kd.R_slice HO_3.out
                  subst eo53
                  have p316 : 0 ≤ (x12_3 : Int) := odt
                  have q316 : x12_3 < (t299.length : Int) := odt
                  obtain ⟨ad316, e316, hx316_0, hx316_1, hx316_2, hx316_3, hx316_4, hx316_5, hx316_6, hx316_7, hx316_8⟩ := at_T35 (Kd.R_reads' HO_3.out).2.2 x12_3 p316 q316
                  cases e316
                  replace p316 := eq_true p316
                  replace q316 := eq_true q316
                  have p317 : 0 ≤ (x12_3 : Int) := odt
                  have q317 : x12_3 < (t299.length : Int) := odt
                  obtain ⟨ad317, e317, hx317_0, hx317_1, hx317_2, hx317_3, hx317_4, hx317_5, hx317_6, hx317_7, hx317_8⟩ := at_T35 (Kd.R_reads' HO_3.out).2.2 x12_3 p317 q317
                  obtain rfl : ad316 = ad317 := (by injection e317)
                  replace p317 := eq_true p317
                  replace q317 := eq_true q317
                  have p318 : 0 ≤ (x12_3 : Int) := odt
                  have q318 : x12_3 < (t299.length : Int) := odt
                  obtain ⟨ad318, e318, hx318_0, hx318_1, hx318_2, hx318_3, hx318_4, hx318_5, hx318_6, hx318_7, hx318_8⟩ := at_T35 (Kd.R_reads' HO_3.out).2.2 x12_3 p318 q318
                  obtain rfl : ad316 = ad318 := (by injection e318)
                  replace p318 := eq_true p318
                  replace q318 := eq_true q318
                  have p323 : 0 ≤ (x12_3 : Int) := odt
                  have q323 : x12_3 < (t299.length : Int) := odt
                  obtain ⟨ad323, e323, hx323_0, hx323_1, hx323_2, hx323_3, hx323_4, hx323_5, hx323_6, hx323_7, hx323_8⟩ := at_T35 (Kd.R_reads' HO_3.out).2.2 x12_3 p323 q323
                  obtain rfl : ad316 = ad323 := (by injection e323)
                  replace p323 := eq_true p323
                  replace q323 := eq_true q323
                  have p324 : 0 ≤ (x12_3 : Int) := odt
                  have q324 : x12_3 < (t299.length : Int) := odt
                  obtain ⟨ad324, e324, hx324_0, hx324_1, hx324_2, hx324_3, hx324_4, hx324_5, hx324_6, hx324_7, hx324_8⟩ := at_T35 (Kd.R_reads' HO_3.out).2.2 x12_3 p324 q324
                  obtain rfl : ad316 = ad324 := (by injection e324)
                  replace p324 := eq_true p324
                  replace q324 := eq_true q324
                  have p50 : 0 ≤ (((rd_T35 t299 x12_3).f1) : Int) := odt
                  have q50 : ((rd_T35 t299 x12_3).f1) < (a0.size : Int) := odt
                  have hx50 := bt_at a0 ((rd_T35 t299 x12_3).f1)
                  replace p50 := eq_true p50
                  replace q50 := eq_true q50
                  go_wp2
                  repeat (go_quiet (fail); try go_wp2)
                  go_roundg k3
                  case measure => have := HJ1.out; have := HJ11.out; have := HK3.out; omega
                  case rel => exact ⟨(wrap64 (x12_3 + 1)), (by first | rfl | (simp; done) | (simp [*]; done) | exact congrArg (Value.int .i64) (by unfold wrap64; omega)), (by first | exact H' | (subst_vars; exact H')), ⟨by have := HJ1.out; have := HJ11.out; have := HK3.out; omega⟩, ⟨by (with_reducible repeat (first | apply Kd.R_alloc | apply Kd.R_drewN | apply Kd.R_drew)); exact HO_3.out⟩, ⟨belx HB⟩⟩
              rw [if_pos c32] at H
              have c32b0 : decide (0 < x12_3) = true := decide_eq_true c32
              clear c32
              obtain ⟨ji33, hji33⟩ : ∃ j_ : Int, (wrap64 (x12_3 - 1)) = j_ := ⟨_, rfl⟩
              replace H : (if 0 ≤ (ji33) then (if (ji33) < (t299.length : Int) then (if ((rd_T35 t299 (ji33)).f1) ≥ ((rd_T35 t299 x12_3).f1) then (some false) else (if ((rd_T35 t299 x12_3).f0) = 10 then (scantlinglaw03_LexWhole.l0 k3 a0 t299 (wrap64 (x12_3 + 1))) else (if 0 ≤ ((rd_T35 t299 x12_3).f1) then (if ((rd_T35 t299 x12_3).f1) < (a0.size : Int) then (if (bt a0 ((rd_T35 t299 x12_3).f1)) = 32 then (some false) else (scantlinglaw03_LexWhole.l0 k3 a0 t299 (wrap64 (x12_3 + 1)))) else (none)) else (none)))) else (none)) else (none)) = some r := by first | (rw [hji33] at H; exact H) | (simp only [hji33] at H ⊢; exact H)
              have hji33w : (IntKind.i64.wrap (x12_3 - 1)) = ji33 := (i64_w _).trans hji33
              by_cases c34 : 0 ≤ (ji33)
              case neg => rw [if_neg c34] at H; exact absurd H (by simp)
              rw [if_pos c34] at H
              have c34b0 : decide (0 ≤ (ji33)) = true := decide_eq_true c34
              clear c34
              by_cases c35 : (ji33) < (t299.length : Int)
              case neg => rw [if_neg c35] at H; exact absurd H (by simp)
              rw [if_pos c35] at H
              have c35b0 : decide ((ji33) < (t299.length : Int)) = true := decide_eq_true c35
              clear c35
              by_cases c36 : ((rd_T35 t299 (ji33)).f1) ≥ ((rd_T35 t299 x12_3).f1)
              case pos =>
                rw [if_pos c36] at H
                have c36b0 : decide (((rd_T35 t299 x12_3).f1) ≤ ((rd_T35 t299 (ji33)).f1)) = true := decide_eq_true c36
                clear c36
                as_aux_lemma =>
                  obtain rfl := Option.some.inj H
                  obtain ⟨Ao37, co37, eo37⟩ := Kd.R_slice HO_3.out
                  subst eo37
                  have p316 : 0 ≤ (x12_3 : Int) := odt
                  have q316 : x12_3 < (t299.length : Int) := odt
                  obtain ⟨ad316, e316, hx316_0, hx316_1, hx316_2, hx316_3, hx316_4, hx316_5, hx316_6, hx316_7, hx316_8⟩ := at_T35 (Kd.R_reads' HO_3.out).2.2 x12_3 p316 q316
                  cases e316
                  replace p316 := eq_true p316
                  replace q316 := eq_true q316
                  have p317 : 0 ≤ (x12_3 : Int) := odt
                  have q317 : x12_3 < (t299.length : Int) := odt
                  obtain ⟨ad317, e317, hx317_0, hx317_1, hx317_2, hx317_3, hx317_4, hx317_5, hx317_6, hx317_7, hx317_8⟩ := at_T35 (Kd.R_reads' HO_3.out).2.2 x12_3 p317 q317
                  obtain rfl : ad316 = ad317 := (by injection e317)
                  replace p317 := eq_true p317
                  replace q317 := eq_true q317
                  have p318 : 0 ≤ (x12_3 : Int) := odt
                  have q318 : x12_3 < (t299.length : Int) := odt
                  obtain ⟨ad318, e318, hx318_0, hx318_1, hx318_2, hx318_3, hx318_4, hx318_5, hx318_6, hx318_7, hx318_8⟩ := at_T35 (Kd.R_reads' HO_3.out).2.2 x12_3 p318 q318
                  obtain rfl : ad316 = ad318 := (by injection e318)
                  replace p318 := eq_true p318
                  replace q318 := eq_true q318
                  have p319 : 0 ≤ ((ji33) : Int) := odt
                  have q319 : (ji33) < (t299.length : Int) := odt
                  obtain ⟨ad319, e319, hx319_0, hx319_1, hx319_2, hx319_3, hx319_4, hx319_5, hx319_6, hx319_7, hx319_8⟩ := at_T35 (Kd.R_reads' HO_3.out).2.2 (ji33) p319 q319
                  obtain rfl : ad316 = ad319 := (by injection e319)
                  replace p319 := eq_true p319
                  replace q319 := eq_true q319
                  have p320 : 0 ≤ (x12_3 : Int) := odt
                  have q320 : x12_3 < (t299.length : Int) := odt
                  obtain ⟨ad320, e320, hx320_0, hx320_1, hx320_2, hx320_3, hx320_4, hx320_5, hx320_6, hx320_7, hx320_8⟩ := at_T35 (Kd.R_reads' HO_3.out).2.2 x12_3 p320 q320
                  obtain rfl : ad316 = ad320 := (by injection e320)
                  replace p320 := eq_true p320
                  replace q320 := eq_true q320
                  go_wp2
                  repeat (go_quiet (fail); try go_wp2)
                  go_ret
                  exact ⟨by first | rfl | (simp [errW_none, errW_some] <;> rfl) | (simp only [← hji33]; first | rfl | (simp [errW_none, errW_some] <;> rfl)) | (simp [*, errW_none, errW_some] <;> rfl), belx HB⟩
              rw [if_neg c36] at H
              have c36b0 : decide (((rd_T35 t299 x12_3).f1) ≤ ((rd_T35 t299 (ji33)).f1)) = false := decide_eq_false c36
              clear c36
              by_cases c38 : ((rd_T35 t299 x12_3).f0) = 10
              case pos =>
                rw [if_pos c38] at H
                have c38b0 : (((rd_T35 t299 x12_3).f0) == 10) = true := beq_iff_eq.mpr c38
                (try have c30zc38 : (x12_3 == (wrap64 ((t299.length : Int) - 1))) = true := by have h_ := c30b0; rw [c38b0] at h_; simpa using h_)
                have c38b1 : (((rd_T35 t299 x12_3).f0) != 10) = false := bne_eq_false_iff_eq.mpr c38
                clear c38
                as_aux_lemma =>
                  have H' := Aside0.mk H
                  clear H
                  obtain ⟨Ao39, co39, eo39⟩ := Kd.R_slice HO_3.out
                  subst eo39
                  have p316 : 0 ≤ (x12_3 : Int) := odt
                  have q316 : x12_3 < (t299.length : Int) := odt
                  obtain ⟨ad316, e316, hx316_0, hx316_1, hx316_2, hx316_3, hx316_4, hx316_5, hx316_6, hx316_7, hx316_8⟩ := at_T35 (Kd.R_reads' HO_3.out).2.2 x12_3 p316 q316
                  cases e316
                  replace p316 := eq_true p316
                  replace q316 := eq_true q316
                  have p317 : 0 ≤ (x12_3 : Int) := odt
                  have q317 : x12_3 < (t299.length : Int) := odt
                  obtain ⟨ad317, e317, hx317_0, hx317_1, hx317_2, hx317_3, hx317_4, hx317_5, hx317_6, hx317_7, hx317_8⟩ := at_T35 (Kd.R_reads' HO_3.out).2.2 x12_3 p317 q317
                  obtain rfl : ad316 = ad317 := (by injection e317)
                  replace p317 := eq_true p317
                  replace q317 := eq_true q317
                  have p318 : 0 ≤ (x12_3 : Int) := odt
                  have q318 : x12_3 < (t299.length : Int) := odt
                  obtain ⟨ad318, e318, hx318_0, hx318_1, hx318_2, hx318_3, hx318_4, hx318_5, hx318_6, hx318_7, hx318_8⟩ := at_T35 (Kd.R_reads' HO_3.out).2.2 x12_3 p318 q318
                  obtain rfl : ad316 = ad318 := (by injection e318)
                  replace p318 := eq_true p318
                  replace q318 := eq_true q318
                  have p319 : 0 ≤ ((ji33) : Int) := odt
                  have q319 : (ji33) < (t299.length : Int) := odt
                  obtain ⟨ad319, e319, hx319_0, hx319_1, hx319_2, hx319_3, hx319_4, hx319_5, hx319_6, hx319_7, hx319_8⟩ := at_T35 (Kd.R_reads' HO_3.out).2.2 (ji33) p319 q319
                  obtain rfl : ad316 = ad319 := (by injection e319)
                  replace p319 := eq_true p319
                  replace q319 := eq_true q319
                  have p320 : 0 ≤ (x12_3 : Int) := odt
                  have q320 : x12_3 < (t299.length : Int) := odt
                  obtain ⟨ad320, e320, hx320_0, hx320_1, hx320_2, hx320_3, hx320_4, hx320_5, hx320_6, hx320_7, hx320_8⟩ := at_T35 (Kd.R_reads' HO_3.out).2.2 x12_3 p320 q320
                  obtain rfl : ad316 = ad320 := (by injection e320)
                  replace p320 := eq_true p320
                  replace q320 := eq_true q320
                  have p321 : 0 ≤ (x12_3 : Int) := odt
                  have q321 : x12_3 < (t299.length : Int) := odt
                  obtain ⟨ad321, e321, hx321_0, hx321_1, hx321_2, hx321_3, hx321_4, hx321_5, hx321_6, hx321_7, hx321_8⟩ := at_T35 (Kd.R_reads' HO_3.out).2.2 x12_3 p321 q321
                  obtain rfl : ad316 = ad321 := (by injection e321)
                  replace p321 := eq_true p321
                  replace q321 := eq_true q321
                  go_wp2
                  repeat (go_quiet (fail); try go_wp2)
                  go_roundg k3
                  case measure => have := HJ1.out; have := HJ11.out; have := HK3.out; omega
                  case rel => exact ⟨(wrap64 (x12_3 + 1)), (by first | rfl | (simp; done) | (simp [*]; done) | exact congrArg (Value.int .i64) (by unfold wrap64; omega)), (by first | exact H' | (subst_vars; exact H')), ⟨by have := HJ1.out; have := HJ11.out; have := HK3.out; omega⟩, ⟨by (with_reducible repeat (first | apply Kd.R_alloc | apply Kd.R_drewN | apply Kd.R_drew)); exact HO_3.out⟩, ⟨belx HB⟩⟩
              rw [if_neg c38] at H
              have c38b0 : (((rd_T35 t299 x12_3).f0) == 10) = false := beq_eq_false_iff_ne.mpr c38
              (try have c30zc38 : (x12_3 == (wrap64 ((t299.length : Int) - 1))) = false := by have h_ := c30b0; rw [c38b0] at h_; simpa using h_)
              have c38b1 : (((rd_T35 t299 x12_3).f0) != 10) = true := bne_iff_ne.mpr c38
              by_cases c40 : 0 ≤ ((rd_T35 t299 x12_3).f1)
              case neg => rw [if_neg c40] at H; exact absurd H (by simp)
              rw [if_pos c40] at H
              have c40b0 : decide (0 ≤ ((rd_T35 t299 x12_3).f1)) = true := decide_eq_true c40
              clear c40
              by_cases c41 : ((rd_T35 t299 x12_3).f1) < (a0.size : Int)
              case neg => rw [if_neg c41] at H; exact absurd H (by simp)
              rw [if_pos c41] at H
              have c41b0 : decide (((rd_T35 t299 x12_3).f1) < (a0.size : Int)) = true := decide_eq_true c41
              clear c41
              by_cases c43 : (bt a0 ((rd_T35 t299 x12_3).f1)) = 32
              case pos =>
                rw [if_pos c43] at H
                have c43b0 : ((bt a0 ((rd_T35 t299 x12_3).f1)) == 32) = true := beq_iff_eq.mpr c43
                have c43b1 : ((bt a0 ((rd_T35 t299 x12_3).f1)) != 32) = false := bne_eq_false_iff_eq.mpr c43
                clear c43
                as_aux_lemma =>
                  obtain rfl := Option.some.inj H
                  obtain ⟨Ao44, co44, eo44⟩ := Kd.R_slice HO_3.out
                  subst eo44
                  have p316 : 0 ≤ (x12_3 : Int) := odt
                  have q316 : x12_3 < (t299.length : Int) := odt
                  obtain ⟨ad316, e316, hx316_0, hx316_1, hx316_2, hx316_3, hx316_4, hx316_5, hx316_6, hx316_7, hx316_8⟩ := at_T35 (Kd.R_reads' HO_3.out).2.2 x12_3 p316 q316
                  cases e316
                  replace p316 := eq_true p316
                  replace q316 := eq_true q316
                  have p317 : 0 ≤ (x12_3 : Int) := odt
                  have q317 : x12_3 < (t299.length : Int) := odt
                  obtain ⟨ad317, e317, hx317_0, hx317_1, hx317_2, hx317_3, hx317_4, hx317_5, hx317_6, hx317_7, hx317_8⟩ := at_T35 (Kd.R_reads' HO_3.out).2.2 x12_3 p317 q317
                  obtain rfl : ad316 = ad317 := (by injection e317)
                  replace p317 := eq_true p317
                  replace q317 := eq_true q317
                  have p318 : 0 ≤ (x12_3 : Int) := odt
                  have q318 : x12_3 < (t299.length : Int) := odt
                  obtain ⟨ad318, e318, hx318_0, hx318_1, hx318_2, hx318_3, hx318_4, hx318_5, hx318_6, hx318_7, hx318_8⟩ := at_T35 (Kd.R_reads' HO_3.out).2.2 x12_3 p318 q318
                  obtain rfl : ad316 = ad318 := (by injection e318)
                  replace p318 := eq_true p318
                  replace q318 := eq_true q318
                  have p319 : 0 ≤ ((ji33) : Int) := odt
                  have q319 : (ji33) < (t299.length : Int) := odt
                  obtain ⟨ad319, e319, hx319_0, hx319_1, hx319_2, hx319_3, hx319_4, hx319_5, hx319_6, hx319_7, hx319_8⟩ := at_T35 (Kd.R_reads' HO_3.out).2.2 (ji33) p319 q319
                  obtain rfl : ad316 = ad319 := (by injection e319)
                  replace p319 := eq_true p319
                  replace q319 := eq_true q319
                  have p320 : 0 ≤ (x12_3 : Int) := odt
                  have q320 : x12_3 < (t299.length : Int) := odt
                  obtain ⟨ad320, e320, hx320_0, hx320_1, hx320_2, hx320_3, hx320_4, hx320_5, hx320_6, hx320_7, hx320_8⟩ := at_T35 (Kd.R_reads' HO_3.out).2.2 x12_3 p320 q320
                  obtain rfl : ad316 = ad320 := (by injection e320)
                  replace p320 := eq_true p320
                  replace q320 := eq_true q320
                  have p321 : 0 ≤ (x12_3 : Int) := odt
                  have q321 : x12_3 < (t299.length : Int) := odt
                  obtain ⟨ad321, e321, hx321_0, hx321_1, hx321_2, hx321_3, hx321_4, hx321_5, hx321_6, hx321_7, hx321_8⟩ := at_T35 (Kd.R_reads' HO_3.out).2.2 x12_3 p321 q321
                  obtain rfl : ad316 = ad321 := (by injection e321)
                  replace p321 := eq_true p321
                  replace q321 := eq_true q321
                  have p322 : 0 ≤ (x12_3 : Int) := odt
                  have q322 : x12_3 < (t299.length : Int) := odt
                  obtain ⟨ad322, e322, hx322_0, hx322_1, hx322_2, hx322_3, hx322_4, hx322_5, hx322_6, hx322_7, hx322_8⟩ := at_T35 (Kd.R_reads' HO_3.out).2.2 x12_3 p322 q322
                  obtain rfl : ad316 = ad322 := (by injection e322)
                  replace p322 := eq_true p322
                  replace q322 := eq_true q322
                  have p42 : 0 ≤ (((rd_T35 t299 x12_3).f1) : Int) := odt
                  have q42 : ((rd_T35 t299 x12_3).f1) < (a0.size : Int) := odt
                  have hx42 := bt_at a0 ((rd_T35 t299 x12_3).f1)
                  replace p42 := eq_true p42
                  replace q42 := eq_true q42
                  go_wp2
                  repeat (go_quiet (fail); try go_wp2)
                  go_ret
                  exact ⟨by first | rfl | (simp [errW_none, errW_some] <;> rfl) | (simp only [← hji33]; first | rfl | (simp [errW_none, errW_some] <;> rfl)) | (simp [*, errW_none, errW_some] <;> rfl), belx HB⟩
              rw [if_neg c43] at H
              have c43b0 : ((bt a0 ((rd_T35 t299 x12_3).f1)) == 32) = false := beq_eq_false_iff_ne.mpr c43
              have c43b1 : ((bt a0 ((rd_T35 t299 x12_3).f1)) != 32) = true := bne_iff_ne.mpr c43
              as_aux_lemma =>
                have H' := Aside0.mk H
                clear H
                obtain ⟨Ao45, co45, eo45⟩ := Kd.R_slice HO_3.out
                subst eo45
                have p316 : 0 ≤ (x12_3 : Int) := odt
                have q316 : x12_3 < (t299.length : Int) := odt
                obtain ⟨ad316, e316, hx316_0, hx316_1, hx316_2, hx316_3, hx316_4, hx316_5, hx316_6, hx316_7, hx316_8⟩ := at_T35 (Kd.R_reads' HO_3.out).2.2 x12_3 p316 q316
                cases e316
                replace p316 := eq_true p316
                replace q316 := eq_true q316
                have p317 : 0 ≤ (x12_3 : Int) := odt
                have q317 : x12_3 < (t299.length : Int) := odt
                obtain ⟨ad317, e317, hx317_0, hx317_1, hx317_2, hx317_3, hx317_4, hx317_5, hx317_6, hx317_7, hx317_8⟩ := at_T35 (Kd.R_reads' HO_3.out).2.2 x12_3 p317 q317
                obtain rfl : ad316 = ad317 := (by injection e317)
                replace p317 := eq_true p317
                replace q317 := eq_true q317
                have p318 : 0 ≤ (x12_3 : Int) := odt
                have q318 : x12_3 < (t299.length : Int) := odt
                obtain ⟨ad318, e318, hx318_0, hx318_1, hx318_2, hx318_3, hx318_4, hx318_5, hx318_6, hx318_7, hx318_8⟩ := at_T35 (Kd.R_reads' HO_3.out).2.2 x12_3 p318 q318
                obtain rfl : ad316 = ad318 := (by injection e318)
                replace p318 := eq_true p318
                replace q318 := eq_true q318
                have p319 : 0 ≤ ((ji33) : Int) := odt
                have q319 : (ji33) < (t299.length : Int) := odt
                obtain ⟨ad319, e319, hx319_0, hx319_1, hx319_2, hx319_3, hx319_4, hx319_5, hx319_6, hx319_7, hx319_8⟩ := at_T35 (Kd.R_reads' HO_3.out).2.2 (ji33) p319 q319
                obtain rfl : ad316 = ad319 := (by injection e319)
                replace p319 := eq_true p319
                replace q319 := eq_true q319
                have p320 : 0 ≤ (x12_3 : Int) := odt
                have q320 : x12_3 < (t299.length : Int) := odt
                obtain ⟨ad320, e320, hx320_0, hx320_1, hx320_2, hx320_3, hx320_4, hx320_5, hx320_6, hx320_7, hx320_8⟩ := at_T35 (Kd.R_reads' HO_3.out).2.2 x12_3 p320 q320
                obtain rfl : ad316 = ad320 := (by injection e320)
                replace p320 := eq_true p320
                replace q320 := eq_true q320
                have p321 : 0 ≤ (x12_3 : Int) := odt
                have q321 : x12_3 < (t299.length : Int) := odt
                obtain ⟨ad321, e321, hx321_0, hx321_1, hx321_2, hx321_3, hx321_4, hx321_5, hx321_6, hx321_7, hx321_8⟩ := at_T35 (Kd.R_reads' HO_3.out).2.2 x12_3 p321 q321
                obtain rfl : ad316 = ad321 := (by injection e321)
                replace p321 := eq_true p321
                replace q321 := eq_true q321
                have p322 : 0 ≤ (x12_3 : Int) := odt
                have q322 : x12_3 < (t299.length : Int) := odt
                obtain ⟨ad322, e322, hx322_0, hx322_1, hx322_2, hx322_3, hx322_4, hx322_5, hx322_6, hx322_7, hx322_8⟩ := at_T35 (Kd.R_reads' HO_3.out).2.2 x12_3 p322 q322
                obtain rfl : ad316 = ad322 := (by injection e322)
                replace p322 := eq_true p322
                replace q322 := eq_true q322
                have p42 : 0 ≤ (((rd_T35 t299 x12_3).f1) : Int) := odt
                have q42 : ((rd_T35 t299 x12_3).f1) < (a0.size : Int) := odt
                have hx42 := bt_at a0 ((rd_T35 t299 x12_3).f1)
                replace p42 := eq_true p42
                replace q42 := eq_true q42
                go_wp2
                repeat (go_quiet (fail); try go_wp2)
                go_roundg k3
                case measure => have := HJ1.out; have := HJ11.out; have := HK3.out; omega
                case rel => exact ⟨(wrap64 (x12_3 + 1)), (by first | rfl | (simp; done) | (simp [*]; done) | exact congrArg (Value.int .i64) (by unfold wrap64; omega)), (by first | exact H' | (subst_vars; exact H')), ⟨by have := HJ1.out; have := HJ11.out; have := HK3.out; omega⟩, ⟨by (with_reducible repeat (first | apply Kd.R_alloc | apply Kd.R_drewN | apply Kd.R_drew)); exact HO_3.out⟩, ⟨belx HB⟩⟩
def scantlinglaw03_LexWhole.Pure : Prop := ∀ (a0 : ByteArray), a0.size ≤ 140737488351232 → ∃ k, scantlinglaw03_LexWhole.f k a0 = some true
theorem scantlinglaw03_LexWhole.walk (P : scantlinglaw03_LexWhole.Pure) (a0 : ByteArray) (w : World) (hL_ : LaidW w) (w0 : a0.size ≤ 140737488351232) :
    Calls Tryd.prog 4 #[.string a0] w fun e w' => e = .returned (.bool true) ∧ Below w.heap.size w w' := by
  obtain ⟨k, h⟩ := P a0 w0
  refine (scantlinglaw03_LexWhole.calls k a0 true w hL_ h).mono ?_
  rintro e w' ⟨rfl, hd⟩
  exact ⟨rfl, hd⟩
end Go.Proofs.YtepnbnpgifpfbaaDoor.G
