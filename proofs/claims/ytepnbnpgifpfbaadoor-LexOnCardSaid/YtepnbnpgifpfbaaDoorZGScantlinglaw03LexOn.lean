/- Lemmas and walks of this claim: GScantlinglaw03LexOn. -/
import Derived.Test.YtepnbnpgifpfbaaDoorZKb
import Derived.Test.YtepnbnpgifpfbaaDoorZKf
import Derived.Test.YtepnbnpgifpfbaaDoorZGEAwake03
import Derived.Test.YtepnbnpgifpfbaaDoorZRb
set_option linter.unusedVariables false
set_option linter.unusedSimpArgs false
namespace Go.Proofs.YtepnbnpgifpfbaaDoor.G
open Go.RowKit Go.Proofs.YtepnbnpgifpfbaaDoorW.PrintWords Go.Proofs.YtepnbnpgifpfbaaDoorW.PrintLast Go.Proofs.YtepnbnpgifpfbaaDoorW.PrintMore
attribute [local go_sem] max2_int min2_int max_two min_two max_three min_three max_four min_four
set_option linter.unusedVariables false
set_option linter.unusedSimpArgs false
mutual
def scantlinglaw03_LexOn.j0 : Nat → ByteArray → ByteArray → Int → Bool → Option (Bool)
  | 0, _, _, _, _ => none
  | k + 1, x0, x1, x2, x33 => if x33 = true then ((scantlinglaw03_awake.f).bind fun t327 => (some t327)) else ((lex_Read.f k x0).bind fun bt328 => ((lex_Read.f k x1).bind fun bt333 => (if bt328.2.1 = 0 then (scantlinglaw03_LexOn.j1 k x0 x1 x2 bt328.1 bt328.2.1 bt333.1 bt333.2.1 bt333.2.2 ((bt328.1.length : Int) == 0)) else (scantlinglaw03_LexOn.j1 k x0 x1 x2 bt328.1 bt328.2.1 bt333.1 bt333.2.1 bt333.2.2 true))))
def scantlinglaw03_LexOn.j1 : Nat → ByteArray → ByteArray → Int → List (S35) → Int → List (S35) → Int → Int → Bool → Option (Bool)
  | 0, _, _, _, _, _, _, _, _, _ => none
  | k + 1, x0, x1, x2, x7, x8, x10, x11, x12, x53 => if x53 = true then (some (x8 != 0)) else (if x0.size + 1 ≤ 9223372036854775807 then (scantlinglaw03_LexOn.l0 k x1 x2 x7 x10 x11 x12 (wrap64 ((x0.size : Int) + 1)) (x0 ++ (⟨#[32]⟩ : ByteArray)) 0) else (none))
def scantlinglaw03_LexOn.l0 : Nat → ByteArray → Int → List (S35) → List (S35) → Int → Int → Int → ByteArray → Int → Option (Bool)
  | 0, _, _, _, _, _, _, _, _, _ => none
  | k + 1, x1, x2, x7, x10, x11, x12, x13, x14, x15 => if x15 < (wrap64 (Int.tmod x2 5)) then (if x14.size + 1 ≤ 9223372036854775807 then (scantlinglaw03_LexOn.l0 k x1 x2 x7 x10 x11 x12 (wrap64 (x13 + 1)) (x14 ++ (⟨#[32]⟩ : ByteArray)) (wrap64 (x15 + 1))) else (none)) else (if x14.size + x1.size ≤ 9223372036854775807 then ((lex_Read.f k (x14 ++ x1)).bind fun bt338 => (if x11 = 0 then ((some (([] : List (S35)) : List (S35))).bind fun y343 => (if 0 ≤ (wrap64 ((x7.length : Int) - 1)) then (if (wrap64 ((x7.length : Int) - 1)) ≤ (x7.length : Int) then ((some (x7.take ((wrap64 ((x7.length : Int) - 1)) : Int).toNat : List (S35))).bind fun y346 => (if y343.length + y346.length < 1759218604441 then (scantlinglaw03_LexOn.l1 k x10 x13 bt338.1 bt338.2.1 (y343 ++ y346) 0) else (none))) else (none)) else (none))) else (if bt338.2.1 = x11 then (if bt338.2.2 = (wrap64 (x12 + x13)) then (some ((bt338.1.length : Int) == 0)) else (some false)) else (some false)))) else (none))
def scantlinglaw03_LexOn.l1 : Nat → List (S35) → Int → List (S35) → Int → List (S35) → Int → Option (Bool)
  | 0, _, _, _, _, _, _ => none
  | k + 1, x10, x13, x16, x17, x19, x20 => if x20 < (x10.length : Int) then (if 0 ≤ x20 then (if x19.length < 1759218604441 then (scantlinglaw03_LexOn.l1 k x10 x13 x16 x17 (x19 ++ [(⟨(rd_T35 x10 x20).f0, wrap64 (((rd_T35 x10 x20).f1) + x13), (⟨(rd_T35 x10 x20).f2.f0, (rd_T35 x10 x20).f2.f1, (rd_T35 x10 x20).f2.f2, (rd_T35 x10 x20).f2.f3⟩ : S33), (rd_T35 x10 x20).f3, (rd_T35 x10 x20).f4, (rd_T35 x10 x20).f5⟩ : S35)]) (wrap64 (x20 + 1))) else (none)) else (none)) else (if x17 = 0 then ((scantlingref03_Same.f k x16 x19).bind fun t358 => (some t358)) else (some false))
end
def scantlinglaw03_LexOn.f (k : Nat) (a0 : ByteArray) (a1 : ByteArray) (a2 : Int) : Option (Bool) := (scantlinglaw03_awake.f).bind fun t326 => (if t326 = true then (if (a0.size : Int) > 1000 then (scantlinglaw03_LexOn.j0 k a0 a1 a2 true) else (scantlinglaw03_LexOn.j0 k a0 a1 a2 (decide ((a1.size : Int) > 1000)))) else (scantlinglaw03_LexOn.j0 k a0 a1 a2 true))
set_option maxHeartbeats 8000000 in
set_option maxRecDepth 100000 in
theorem scantlinglaw03_LexOn.calls (k : Nat) (a0 : ByteArray) (a1 : ByteArray) (a2 : Int) (r : Bool) (w : World) (hL_ : LaidW w) (h : scantlinglaw03_LexOn.f k a0 a1 a2 = some r) :
    Calls Tryd.prog 5 #[.string a0, .string a1, .int .u8 a2] w fun e w' => e = .returned (.bool r) ∧ Below w.heap.size w w' := by
  have hu35 := Tryd.underlying35
  have HB := Aside0.mk (Below.refl w.heap.size w)
  have H : ((scantlinglaw03_awake.f).bind fun t326 => (if t326 = true then (if (a0.size : Int) > 1000 then (scantlinglaw03_LexOn.j0 k a0 a1 a2 true) else (scantlinglaw03_LexOn.j0 k a0 a1 a2 (decide ((a1.size : Int) > 1000)))) else (scantlinglaw03_LexOn.j0 k a0 a1 a2 true))) = some r := h
  clear h
  have HC4 := Aside0.mk H
  clear H
  go_enter Tryd.func5, Tryd.ntmps5
  go_upto_region 1 with (fail)
  go_cut [33] (fun v33 wc => ∃ (kq : Nat) (x33_3 : Bool), v33 = .bool x33_3 ∧ Aside0 (scantlinglaw03_LexOn.j0 kq a0 a1 a2 x33_3 = some r) ∧ Aside0 (kq ≤ k) ∧ Aside0 (Below w.heap.size w wc))
  case first =>
    have H := HC4.out
    clear HC4
    replace H := Option.bind_eq_some_iff.mp H
    obtain ⟨t326, A50, H⟩ := H
    replace H : (if t326 = true then (if (a0.size : Int) > 1000 then (scantlinglaw03_LexOn.j0 k a0 a1 a2 true) else (scantlinglaw03_LexOn.j0 k a0 a1 a2 (decide ((a1.size : Int) > 1000)))) else (scantlinglaw03_LexOn.j0 k a0 a1 a2 true)) = some r := H
    have A5 := Aside0.mk A50
    clear A50
    by_cases c6 : t326 = true
    · subst c6
      have H1 : (if (a0.size : Int) > 1000 then (scantlinglaw03_LexOn.j0 k a0 a1 a2 true) else (scantlinglaw03_LexOn.j0 k a0 a1 a2 (decide ((a1.size : Int) > 1000)))) = some r := by rw [if_pos rfl] at H; exact H
      clear H
      have H := H1
      clear H1
      by_cases c7 : (a0.size : Int) > 1000
      · rw [if_pos c7] at H
        have c7b0 : decide (1000 < (a0.size : Int)) = true := decide_eq_true c7
        have c7b1 : decide (1000 < a0.size) = true := decide_eq_true (by omega)
        clear c7
        (first | rw [c7b0] | (simp only [i64_w, i32_w]; rw [c7b0]) | skip)
        have H' := Aside0.mk H
        clear H
        go_wp2_with (first | ((with_reducible refine gate_callee (f := 10) rfl ?_); refine goesL_ (some 22) rfl rfl Tryd.func10 (by kernel_rfl) rfl #[] rfl (by (try simp only [List.map_toArray, List.map_cons, List.map_nil]); first | done | rfl | (simp only [List.length_drop, List.length_take]; rfl)) ?_; (with_reducible refine (scantlinglaw03_awake.calls  true _ ?side1 A5.out).mono ?_); (case side1 => exact (by repeat (first | exact hL_ | apply LaidW.drewN | apply LaidW.drew | refine LaidW.below hL_ (belx HB)))); rintro e w8 ⟨rfl, hb⟩; refine ⟨_, rfl, ?_⟩; have n0_ := Aside0.mk (below_step (belx HB) hb); clear HB; have HB := n0_; clear n0_; (try clear hb); (try clear hb2); (try clear hk); (try clear hi)))
        go_meet
        case rel => exact ⟨_, (true), (by first | rfl | (simp; done) | (simp [*]; done) | exact congrArg (Value.int .i64) (by unfold wrap64; omega)), (by first | exact H' | (subst_vars; exact H')), ⟨by first | omega | exact Nat.le_refl _⟩, ⟨belx HB⟩⟩
      · rw [if_neg c7] at H
        have c7b0 : decide (1000 < (a0.size : Int)) = false := decide_eq_false c7
        have c7b1 : decide (1000 < a0.size) = false := decide_eq_false (by omega)
        clear c7
        (first | rw [c7b0] | (simp only [i64_w, i32_w]; rw [c7b0]) | skip)
        have H' := Aside0.mk H
        clear H
        go_wp2_with (first | ((with_reducible refine gate_callee (f := 10) rfl ?_); refine goesL_ (some 22) rfl rfl Tryd.func10 (by kernel_rfl) rfl #[] rfl (by (try simp only [List.map_toArray, List.map_cons, List.map_nil]); first | done | rfl | (simp only [List.length_drop, List.length_take]; rfl)) ?_; (with_reducible refine (scantlinglaw03_awake.calls  true _ ?side1 A5.out).mono ?_); (case side1 => exact (by repeat (first | exact hL_ | apply LaidW.drewN | apply LaidW.drew | refine LaidW.below hL_ (belx HB)))); rintro e w9 ⟨rfl, hb⟩; refine ⟨_, rfl, ?_⟩; have n0_ := Aside0.mk (below_step (belx HB) hb); clear HB; have HB := n0_; clear n0_; (try clear hb); (try clear hb2); (try clear hk); (try clear hi)))
        go_meet
        case rel => exact ⟨_, (decide ((a1.size : Int) > 1000)), (by first | rfl | (simp; done) | (simp [*]; done) | exact congrArg (Value.int .i64) (by unfold wrap64; omega)), (by first | exact H' | (subst_vars; exact H')), ⟨by first | omega | exact Nat.le_refl _⟩, ⟨belx HB⟩⟩
    · replace c6 := Bool.eq_false_iff.mpr c6
      subst c6
      have H1 : (scantlinglaw03_LexOn.j0 k a0 a1 a2 true) = some r := by rw [if_neg (show ¬ (false = true) by decide)] at H; exact H
      clear H
      have H := H1
      clear H1
      have H' := Aside0.mk H
      clear H
      go_wp2_with (first | ((with_reducible refine gate_callee (f := 10) rfl ?_); refine goesL_ (some 22) rfl rfl Tryd.func10 (by kernel_rfl) rfl #[] rfl (by (try simp only [List.map_toArray, List.map_cons, List.map_nil]); first | done | rfl | (simp only [List.length_drop, List.length_take]; rfl)) ?_; (with_reducible refine (scantlinglaw03_awake.calls  false _ ?side1 A5.out).mono ?_); (case side1 => exact (by repeat (first | exact hL_ | apply LaidW.drewN | apply LaidW.drew | refine LaidW.below hL_ (belx HB)))); rintro e w10 ⟨rfl, hb⟩; refine ⟨_, rfl, ?_⟩; have n0_ := Aside0.mk (below_step (belx HB) hb); clear HB; have HB := n0_; clear n0_; (try clear hb); (try clear hb2); (try clear hk); (try clear hi)))
      go_meet
      case rel => exact ⟨_, (true), (by first | rfl | (simp; done) | (simp [*]; done) | exact congrArg (Value.int .i64) (by unfold wrap64; omega)), (by first | exact H' | (subst_vars; exact H')), ⟨by first | omega | exact Nat.le_refl _⟩, ⟨belx HB⟩⟩
  case rest =>
    clear HC4
    obtain ⟨kq, x33_3, rfl, HA, HJ3, HB⟩ := hcut
    cases kq with
    | zero => exact absurd HA.out (by simp [scantlinglaw03_LexOn.j0])
    | succ kj3 =>
      have H := HA.out
      clear HA
      simp only [scantlinglaw03_LexOn.j0] at H
      by_cases c11 : x33_3 = true
      case pos =>
        subst c11
        have H1 : ((scantlinglaw03_awake.f).bind fun t327 => (some t327)) = some r := by rw [if_pos rfl] at H; exact H
        clear H
        have H := H1
        clear H1
        replace H := Option.bind_eq_some_iff.mp H
        obtain ⟨t327, A120, H⟩ := H
        replace H : (some t327) = some r := H
        have A12 := Aside0.mk A120
        clear A120
        obtain rfl := Option.some.inj H
        go_wp2_with (first | ((with_reducible refine gate_callee (f := 10) rfl ?_); refine goesL_ (some 34) rfl rfl Tryd.func10 (by kernel_rfl) rfl #[] rfl (by (try simp only [List.map_toArray, List.map_cons, List.map_nil]); first | done | rfl | (simp only [List.length_drop, List.length_take]; rfl)) ?_; (with_reducible refine (scantlinglaw03_awake.calls  t327 _ ?side1 A12.out).mono ?_); (case side1 => exact (by repeat (first | exact hL_ | apply LaidW.drewN | apply LaidW.drew | refine LaidW.below hL_ (belx HB)))); rintro e w13 ⟨rfl, hb⟩; refine ⟨_, rfl, ?_⟩; have n0_ := Aside0.mk (below_step (belx HB) hb); clear HB; have HB := n0_; clear n0_; (try clear hb); (try clear hb2); (try clear hk); (try clear hi)))
        go_ret
        exact ⟨by first | rfl | (simp [errW_none, errW_some] <;> rfl) | (simp [*, errW_none, errW_some] <;> rfl), belx HB⟩
      replace c11 := Bool.eq_false_iff.mpr c11
      subst c11
      have H1 : ((lex_Read.f kj3 a0).bind fun bt328 => ((lex_Read.f kj3 a1).bind fun bt333 => (if bt328.2.1 = 0 then (scantlinglaw03_LexOn.j1 kj3 a0 a1 a2 bt328.1 bt328.2.1 bt333.1 bt333.2.1 bt333.2.2 ((bt328.1.length : Int) == 0)) else (scantlinglaw03_LexOn.j1 kj3 a0 a1 a2 bt328.1 bt328.2.1 bt333.1 bt333.2.1 bt333.2.2 true)))) = some r := by rw [if_neg (show ¬ (false = true) by decide)] at H; exact H
      clear H
      have H := H1
      clear H1
      replace H := Option.bind_eq_some_iff.mp H
      obtain ⟨⟨t328, t329, t330⟩, A140, H⟩ := H
      replace H : ((lex_Read.f kj3 a1).bind fun bt333 => (if t329 = 0 then (scantlinglaw03_LexOn.j1 kj3 a0 a1 a2 t328 t329 bt333.1 bt333.2.1 bt333.2.2 ((t328.length : Int) == 0)) else (scantlinglaw03_LexOn.j1 kj3 a0 a1 a2 t328 t329 bt333.1 bt333.2.1 bt333.2.2 true))) = some r := H
      have A14 := Aside0.mk A140
      clear A140
      replace H := Option.bind_eq_some_iff.mp H
      obtain ⟨⟨t333, t334, t335⟩, A150, H⟩ := H
      replace H : (if t329 = 0 then (scantlinglaw03_LexOn.j1 kj3 a0 a1 a2 t328 t329 t333 t334 t335 ((t328.length : Int) == 0)) else (scantlinglaw03_LexOn.j1 kj3 a0 a1 a2 t328 t329 t333 t334 t335 true)) = some r := H
      have A15 := Aside0.mk A150
      clear A150
      have HC16 := Aside0.mk H
      clear H
      go_upto_region 5 with (first | ((with_reducible refine gate_callee (f := 11) rfl ?_); refine goesL_ (some 37) rfl rfl Tryd.func11 (by kernel_rfl) rfl #[.string a0] rfl (by (try simp only [List.map_toArray, List.map_cons, List.map_nil]); first | done | rfl | (simp only [List.length_drop, List.length_take]; rfl)) ?_; (with_reducible refine (lex_Read.calls kj3 a0 t328 t329 t330 _ ?side1 A14.out).mono ?_); (case side1 => exact (by repeat (first | exact hL_ | apply LaidW.drewN | apply LaidW.drew | refine LaidW.below hL_ (belx HB)))); rintro e w17 ⟨v331, rfl, ho0, hb⟩; refine ⟨_, rfl, ?_⟩; have n0_ := Aside0.mk (Kd.R_lower ho0 (below_size (belx HB))); have n1_ := Aside0.mk (below_step (belx HB) hb); clear HB; have HO332 := n0_; have HB := n1_; clear n0_ n1_; (try clear hb); (try clear hb2); (try clear hk); (try clear hi); (try clear ho0)) | ((with_reducible refine gate_callee (f := 11) rfl ?_); refine goesL_ (some 43) rfl rfl Tryd.func11 (by kernel_rfl) rfl #[.string a1] rfl (by (try simp only [List.map_toArray, List.map_cons, List.map_nil]); first | done | rfl | (simp only [List.length_drop, List.length_take]; rfl)) ?_; (with_reducible refine (lex_Read.calls kj3 a1 t333 t334 t335 _ ?side1 A15.out).mono ?_); (case side1 => exact (by repeat (first | exact hL_ | apply LaidW.drewN | apply LaidW.drew | refine LaidW.below hL_ (belx HB)))); rintro e w18 ⟨v336, rfl, ho0, hb⟩; refine ⟨_, rfl, ?_⟩; have n0_ := Aside0.mk (Kd.R_elder' (by (with_reducible repeat (first | apply Kd.R_alloc | apply Kd.R_drewN | apply Kd.R_drew)); exact HO332.out) (Kd.R_base ho0) hb); have n1_ := Aside0.mk (Kd.R_lower (Kd.R_new' ho0 (Kd.R_lt (by (with_reducible repeat (first | apply Kd.R_alloc | apply Kd.R_drewN | apply Kd.R_drew)); exact HO332.out))) (below_size (belx HB))); have n2_ := Aside0.mk (below_step (belx HB) hb); clear HO332; clear HB; have HO332 := n0_; have HO337 := n1_; have HB := n2_; clear n0_ n1_ n2_; (try clear hb); (try clear hb2); (try clear hk); (try clear hi); (try clear ho0)))
      (try simp only [Act.put, List.setIfInBounds_toArray, List.set_cons_zero, List.set_cons_succ])
      go_cut [53] (fun v53 wc => ∃ (kq : Nat) (x53_15 : Bool), v53 = .bool x53_15 ∧ Aside0 (scantlinglaw03_LexOn.j1 kq a0 a1 a2 t328 t329 t333 t334 t335 x53_15 = some r) ∧ Aside0 (kq ≤ kj3) ∧ Aside0 (Kd.R k35 35 wc w.heap.size (fun k_ => some k_ ≠ (v336 : Value).ownBlock) v331 t328) ∧ Aside0 (Kd.R k35 35 wc w.heap.size (fun k_ => some k_ ≠ (v331 : Value).ownBlock) v336 t333) ∧ Aside0 (Below w.heap.size w wc))
      case first =>
        have H := HC16.out
        clear HC16
        by_cases c19 : t329 = 0
        · rw [if_pos c19] at H
          have c19b0 : (t329 == 0) = true := beq_iff_eq.mpr c19
          have c19b1 : (t329 != 0) = false := bne_eq_false_iff_eq.mpr c19
          clear c19
          (first | rw [c19b0] | (simp only [i64_w, i32_w]; rw [c19b0]) | skip)
          have H' := Aside0.mk H
          clear H
          obtain ⟨Ao20, co20, eo20⟩ := Kd.R_slice HO332.out
          subst eo20
          go_wp2
          go_meet
          case rel => exact ⟨_, (((t328.length : Int) == 0)), (by first | rfl | (simp; done) | (simp [*]; done) | exact congrArg (Value.int .i64) (by unfold wrap64; omega)), (by first | exact H' | (subst_vars; exact H')), ⟨by have := HJ3.out; first | omega | exact Nat.le_refl _⟩, ⟨by (with_reducible repeat (first | apply Kd.R_alloc | apply Kd.R_drewN | apply Kd.R_drew)); exact Kd.R_mono HO332.out (fun _ hk => hk.2)⟩, ⟨by (with_reducible repeat (first | apply Kd.R_alloc | apply Kd.R_drewN | apply Kd.R_drew)); exact Kd.R_mono HO337.out (fun _ hk => hk.2)⟩, ⟨belx HB⟩⟩
        · rw [if_neg c19] at H
          have c19b0 : (t329 == 0) = false := beq_eq_false_iff_ne.mpr c19
          have c19b1 : (t329 != 0) = true := bne_iff_ne.mpr c19
          (first | rw [c19b0] | (simp only [i64_w, i32_w]; rw [c19b0]) | skip)
          have H' := Aside0.mk H
          clear H
          go_wp2
          go_meet
          case rel => exact ⟨_, (true), (by first | rfl | (simp; done) | (simp [*]; done) | exact congrArg (Value.int .i64) (by unfold wrap64; omega)), (by first | exact H' | (subst_vars; exact H')), ⟨by have := HJ3.out; first | omega | exact Nat.le_refl _⟩, ⟨by (with_reducible repeat (first | apply Kd.R_alloc | apply Kd.R_drewN | apply Kd.R_drew)); exact Kd.R_mono HO332.out (fun _ hk => hk.2)⟩, ⟨by (with_reducible repeat (first | apply Kd.R_alloc | apply Kd.R_drewN | apply Kd.R_drew)); exact Kd.R_mono HO337.out (fun _ hk => hk.2)⟩, ⟨belx HB⟩⟩
      case rest =>
        clear HC16
        try clear c11
        obtain ⟨kq, x53_15, rfl, HA, HJ15, HO_7, HO_10, HB⟩ := hcut
        cases kq with
        | zero => exact absurd HA.out (by simp [scantlinglaw03_LexOn.j1])
        | succ kj15 =>
          have H := HA.out
          clear HA
          simp only [scantlinglaw03_LexOn.j1] at H
          by_cases c21 : x53_15 = true
          case pos =>
            subst c21
            have H1 : (some (t329 != 0)) = some r := by rw [if_pos rfl] at H; exact H
            clear H
            have H := H1
            clear H1
            obtain rfl := Option.some.inj H
            go_wp2
            go_ret
            exact ⟨by first | rfl | (simp [errW_none, errW_some] <;> rfl) | (simp [*, errW_none, errW_some] <;> rfl), belx HB⟩
          replace c21 := Bool.eq_false_iff.mpr c21
          subst c21
          have H1 : (if a0.size + 1 ≤ 9223372036854775807 then (scantlinglaw03_LexOn.l0 kj15 a1 a2 t328 t333 t334 t335 (wrap64 ((a0.size : Int) + 1)) (a0 ++ (⟨#[32]⟩ : ByteArray)) 0) else (none)) = some r := by rw [if_neg (show ¬ (false = true) by decide)] at H; exact H
          clear H
          have H := H1
          clear H1
          by_cases c22 : a0.size + 1 ≤ 9223372036854775807
          case neg => rw [if_neg c22] at H; exact absurd H (by simp);
          rw [if_pos c22] at H
          have c22b0 := eq_true c22
          have c22b1 : decide (a0.size + 1 ≤ 9223372036854775807) = true := decide_eq_true c22
          try have c22b2 : (9223372036854775807 < a0.size + 1) = False := eq_false (Nat.not_lt.2 c22)
          have H' := Aside0.mk H
          clear H
          go_wp2
          go_loopg [13, 14, 15] kj15 (fun kq v13 v14 v15 w' => ∃ (x13_3 : Int) (x14_3 : ByteArray) (x15_3 : Int), v13 = .int .i64 x13_3 ∧ v14 = .string x14_3 ∧ v15 = .int .i64 x15_3 ∧ Aside0 (scantlinglaw03_LexOn.l0 kq a1 a2 t328 t333 t334 t335 x13_3 x14_3 x15_3 = some r) ∧ Aside0 (kq ≤ kj15) ∧ Aside0 (Kd.R k35 35 w' w.heap.size (fun k_ => some k_ ≠ (v336 : Value).ownBlock) v331 t328) ∧ Aside0 (Kd.R k35 35 w' w.heap.size (fun k_ => some k_ ≠ (v331 : Value).ownBlock) v336 t333) ∧ Aside0 (Below w.heap.size w w'))
          case atStart => exact ⟨(wrap64 ((a0.size : Int) + 1)), (a0 ++ (⟨#[32]⟩ : ByteArray)), (0), (by first | rfl | (simp; done) | (simp [*]; done) | exact congrArg (Value.int .i64) (by unfold wrap64; omega)), (by first | rfl | (simp; done) | (simp [*]; done) | exact congrArg (Value.int .i64) (by unfold wrap64; omega)), (by first | rfl | (simp; done) | (simp [*]; done) | exact congrArg (Value.int .i64) (by unfold wrap64; omega)), (by first | exact H' | (subst_vars; exact H')), ⟨Nat.le_refl _⟩, ⟨by (with_reducible repeat (first | apply Kd.R_alloc | apply Kd.R_drewN | apply Kd.R_drew)); exact HO_7.out⟩, ⟨by (with_reducible repeat (first | apply Kd.R_alloc | apply Kd.R_drewN | apply Kd.R_drew)); exact HO_10.out⟩, ⟨belx HB⟩⟩
          case round =>
            clear H'
            try clear c11; try clear c21; try clear c22; try clear c22b0; try clear c22b1; try clear c22b2
            obtain ⟨x13_3, x14_3, x15_3, rfl, rfl, rfl, HA, HK3, HO_7, HO_10, HB⟩ := hrel
            cases gk with
            | zero => exact absurd HA.out (by simp [scantlinglaw03_LexOn.l0])
            | succ k3 =>
              have H := HA.out
              clear HA
              simp only [scantlinglaw03_LexOn.l0] at H
              by_cases c23 : x15_3 < (wrap64 (Int.tmod a2 5))
              case pos =>
                rw [if_pos c23] at H
                have c23b0 : decide (x15_3 < (wrap64 (Int.tmod a2 5))) = true := decide_eq_true c23
                clear c23
                by_cases c24 : x14_3.size + 1 ≤ 9223372036854775807
                case neg => rw [if_neg c24] at H; exact absurd H (by simp)
                rw [if_pos c24] at H
                have c24b0 := eq_true c24
                have c24b1 : decide (x14_3.size + 1 ≤ 9223372036854775807) = true := decide_eq_true c24
                try have c24b2 : (9223372036854775807 < x14_3.size + 1) = False := eq_false (Nat.not_lt.2 c24)
                have H' := Aside0.mk H
                clear H
                go_wp2
                go_roundg k3
                case measure => have := HJ3.out; have := HJ15.out; have := HK3.out; omega
                case rel => exact ⟨(wrap64 (x13_3 + 1)), (x14_3 ++ (⟨#[32]⟩ : ByteArray)), (wrap64 (x15_3 + 1)), (by first | rfl | (simp; done) | (simp [*]; done) | exact congrArg (Value.int .i64) (by unfold wrap64; omega)), (by first | rfl | (simp; done) | (simp [*]; done) | exact congrArg (Value.int .i64) (by unfold wrap64; omega)), (by first | rfl | (simp; done) | (simp [*]; done) | exact congrArg (Value.int .i64) (by unfold wrap64; omega)), (by first | exact H' | (subst_vars; exact H')), ⟨by have := HJ3.out; have := HJ15.out; have := HK3.out; omega⟩, ⟨by (with_reducible repeat (first | apply Kd.R_alloc | apply Kd.R_drewN | apply Kd.R_drew)); exact HO_7.out⟩, ⟨by (with_reducible repeat (first | apply Kd.R_alloc | apply Kd.R_drewN | apply Kd.R_drew)); exact HO_10.out⟩, ⟨belx HB⟩⟩
              rw [if_neg c23] at H
              have c23b0 : decide (x15_3 < (wrap64 (Int.tmod a2 5))) = false := decide_eq_false c23
              clear c23
              by_cases c25 : x14_3.size + a1.size ≤ 9223372036854775807
              case neg => rw [if_neg c25] at H; exact absurd H (by simp)
              rw [if_pos c25] at H
              have c25b0 := eq_true c25
              have c25b1 : decide (x14_3.size + a1.size ≤ 9223372036854775807) = true := decide_eq_true c25
              try have c25b2 : (9223372036854775807 < x14_3.size + a1.size) = False := eq_false (Nat.not_lt.2 c25)
              replace H := Option.bind_eq_some_iff.mp H
              obtain ⟨⟨t338, t339, t340⟩, A260, H⟩ := H
              replace H : (if t334 = 0 then ((some (([] : List (S35)) : List (S35))).bind fun y343 => (if 0 ≤ (wrap64 ((t328.length : Int) - 1)) then (if (wrap64 ((t328.length : Int) - 1)) ≤ (t328.length : Int) then ((some (t328.take ((wrap64 ((t328.length : Int) - 1)) : Int).toNat : List (S35))).bind fun y346 => (if y343.length + y346.length < 1759218604441 then (scantlinglaw03_LexOn.l1 k3 t333 x13_3 t338 t339 (y343 ++ y346) 0) else (none))) else (none)) else (none))) else (if t339 = t334 then (if t340 = (wrap64 (t335 + x13_3)) then (some ((t338.length : Int) == 0)) else (some false)) else (some false))) = some r := H
              have A26 := Aside0.mk A260
              clear A260
              by_cases c27 : t334 = 0
              case neg =>
                rw [if_neg c27] at H
                have c27b0 : (t334 == 0) = false := beq_eq_false_iff_ne.mpr c27
                have c27b1 : (t334 != 0) = true := bne_iff_ne.mpr c27
                by_cases c53 : t339 = t334
                case neg =>
                  rw [if_neg c53] at H
                  have c53b0 : (t339 == t334) = false := beq_eq_false_iff_ne.mpr c53
                  have c53b1 : (t339 != t334) = true := bne_iff_ne.mpr c53
                  obtain rfl := Option.some.inj H
                  go_wp2_with (first | ((with_reducible refine gate_callee (f := 11) rfl ?_); refine goesL_ (some 76) rfl rfl Tryd.func11 (by kernel_rfl) rfl #[.string (x14_3 ++ a1)] rfl (by (try simp only [List.map_toArray, List.map_cons, List.map_nil]); first | done | rfl | (simp only [List.length_drop, List.length_take]; rfl)) ?_; (with_reducible refine (lex_Read.calls k3 (x14_3 ++ a1) t338 t339 t340 _ ?side1 A26.out).mono ?_); (case side1 => exact (by repeat (first | exact hL_ | apply LaidW.drewN | apply LaidW.drew | refine LaidW.below hL_ (belx HB)))); rintro e w58 ⟨v341, rfl, ho0, hb⟩; refine ⟨_, rfl, ?_⟩; have n0_ := Aside0.mk (Kd.R_elder' (by (with_reducible repeat (first | apply Kd.R_alloc | apply Kd.R_drewN | apply Kd.R_drew)); exact HO_7.out) (Kd.R_base ho0) hb); have n1_ := Aside0.mk (Kd.R_elder' (by (with_reducible repeat (first | apply Kd.R_alloc | apply Kd.R_drewN | apply Kd.R_drew)); exact HO_10.out) (Kd.R_base ho0) hb); have n2_ := Aside0.mk (Kd.R_lower (Kd.R_new' (Kd.R_new' ho0 (Kd.R_lt (by (with_reducible repeat (first | apply Kd.R_alloc | apply Kd.R_drewN | apply Kd.R_drew)); exact HO_7.out))) (Kd.R_lt (by (with_reducible repeat (first | apply Kd.R_alloc | apply Kd.R_drewN | apply Kd.R_drew)); exact HO_10.out))) (below_size (belx HB))); have n3_ := Aside0.mk (below_step (belx HB) hb); clear HO_7; clear HO_10; clear HB; have HO_7 := n0_; have HO_10 := n1_; have HO342 := n2_; have HB := n3_; clear n0_ n1_ n2_ n3_; (try clear hb); (try clear hb2); (try clear hk); (try clear hi); (try clear ho0)))
                  go_ret
                  exact ⟨by first | rfl | (simp [errW_none, errW_some] <;> rfl) | (simp [*, errW_none, errW_some] <;> rfl), belx HB⟩
                rw [if_pos c53] at H
                have c53b0 : (t339 == t334) = true := beq_iff_eq.mpr c53
                have c53b1 : (t339 != t334) = false := bne_eq_false_iff_eq.mpr c53
                clear c53
                by_cases c54 : t340 = (wrap64 (t335 + x13_3))
                case neg =>
                  rw [if_neg c54] at H
                  have c54b0 : (t340 == (wrap64 (t335 + x13_3))) = false := beq_eq_false_iff_ne.mpr c54
                  have c54b1 : (t340 != (wrap64 (t335 + x13_3))) = true := bne_iff_ne.mpr c54
                  obtain rfl := Option.some.inj H
                  go_wp2_with (first | ((with_reducible refine gate_callee (f := 11) rfl ?_); refine goesL_ (some 76) rfl rfl Tryd.func11 (by kernel_rfl) rfl #[.string (x14_3 ++ a1)] rfl (by (try simp only [List.map_toArray, List.map_cons, List.map_nil]); first | done | rfl | (simp only [List.length_drop, List.length_take]; rfl)) ?_; (with_reducible refine (lex_Read.calls k3 (x14_3 ++ a1) t338 t339 t340 _ ?side1 A26.out).mono ?_); (case side1 => exact (by repeat (first | exact hL_ | apply LaidW.drewN | apply LaidW.drew | refine LaidW.below hL_ (belx HB)))); rintro e w57 ⟨v341, rfl, ho0, hb⟩; refine ⟨_, rfl, ?_⟩; have n0_ := Aside0.mk (Kd.R_elder' (by (with_reducible repeat (first | apply Kd.R_alloc | apply Kd.R_drewN | apply Kd.R_drew)); exact HO_7.out) (Kd.R_base ho0) hb); have n1_ := Aside0.mk (Kd.R_elder' (by (with_reducible repeat (first | apply Kd.R_alloc | apply Kd.R_drewN | apply Kd.R_drew)); exact HO_10.out) (Kd.R_base ho0) hb); have n2_ := Aside0.mk (Kd.R_lower (Kd.R_new' (Kd.R_new' ho0 (Kd.R_lt (by (with_reducible repeat (first | apply Kd.R_alloc | apply Kd.R_drewN | apply Kd.R_drew)); exact HO_7.out))) (Kd.R_lt (by (with_reducible repeat (first | apply Kd.R_alloc | apply Kd.R_drewN | apply Kd.R_drew)); exact HO_10.out))) (below_size (belx HB))); have n3_ := Aside0.mk (below_step (belx HB) hb); clear HO_7; clear HO_10; clear HB; have HO_7 := n0_; have HO_10 := n1_; have HO342 := n2_; have HB := n3_; clear n0_ n1_ n2_ n3_; (try clear hb); (try clear hb2); (try clear hk); (try clear hi); (try clear ho0)))
                  go_ret
                  exact ⟨by first | rfl | (simp [errW_none, errW_some] <;> rfl) | (simp [*, errW_none, errW_some] <;> rfl), belx HB⟩
                rw [if_pos c54] at H
                have c54b0 : (t340 == (wrap64 (t335 + x13_3))) = true := beq_iff_eq.mpr c54
                have c54b1 : (t340 != (wrap64 (t335 + x13_3))) = false := bne_eq_false_iff_eq.mpr c54
                clear c54
                obtain rfl := Option.some.inj H
                go_wp2_with (first | ((with_reducible refine gate_callee (f := 11) rfl ?_); refine goesL_ (some 76) rfl rfl Tryd.func11 (by kernel_rfl) rfl #[.string (x14_3 ++ a1)] rfl (by (try simp only [List.map_toArray, List.map_cons, List.map_nil]); first | done | rfl | (simp only [List.length_drop, List.length_take]; rfl)) ?_; (with_reducible refine (lex_Read.calls k3 (x14_3 ++ a1) t338 t339 t340 _ ?side1 A26.out).mono ?_); (case side1 => exact (by repeat (first | exact hL_ | apply LaidW.drewN | apply LaidW.drew | refine LaidW.below hL_ (belx HB)))); rintro e w55 ⟨v341, rfl, ho0, hb⟩; refine ⟨_, rfl, ?_⟩; have n0_ := Aside0.mk (Kd.R_elder' (by (with_reducible repeat (first | apply Kd.R_alloc | apply Kd.R_drewN | apply Kd.R_drew)); exact HO_7.out) (Kd.R_base ho0) hb); have n1_ := Aside0.mk (Kd.R_elder' (by (with_reducible repeat (first | apply Kd.R_alloc | apply Kd.R_drewN | apply Kd.R_drew)); exact HO_10.out) (Kd.R_base ho0) hb); have n2_ := Aside0.mk (Kd.R_lower (Kd.R_new' (Kd.R_new' ho0 (Kd.R_lt (by (with_reducible repeat (first | apply Kd.R_alloc | apply Kd.R_drewN | apply Kd.R_drew)); exact HO_7.out))) (Kd.R_lt (by (with_reducible repeat (first | apply Kd.R_alloc | apply Kd.R_drewN | apply Kd.R_drew)); exact HO_10.out))) (below_size (belx HB))); have n3_ := Aside0.mk (below_step (belx HB) hb); clear HO_7; clear HO_10; clear HB; have HO_7 := n0_; have HO_10 := n1_; have HO342 := n2_; have HB := n3_; clear n0_ n1_ n2_ n3_; (try clear hb); (try clear hb2); (try clear hk); (try clear hi); (try clear ho0); obtain ⟨Ao56, co56, eo56⟩ := Kd.R_slice HO342.out; subst eo56))
                go_ret
                exact ⟨by first | rfl | (simp [errW_none, errW_some] <;> rfl) | (simp [*, errW_none, errW_some] <;> rfl), belx HB⟩
              rw [if_pos c27] at H
              have c27b0 : (t334 == 0) = true := beq_iff_eq.mpr c27
              have c27b1 : (t334 != 0) = false := bne_eq_false_iff_eq.mpr c27
              clear c27
              obtain ⟨y343, hy343⟩ : ∃ y_ : List (S35), y_ = (([] : List (S35))) := ⟨_, rfl⟩
              replace H : (if 0 ≤ (wrap64 ((t328.length : Int) - 1)) then (if (wrap64 ((t328.length : Int) - 1)) ≤ (t328.length : Int) then ((some (t328.take ((wrap64 ((t328.length : Int) - 1)) : Int).toNat : List (S35))).bind fun y346 => (if y343.length + y346.length < 1759218604441 then (scantlinglaw03_LexOn.l1 k3 t333 x13_3 t338 t339 (y343 ++ y346) 0) else (none))) else (none)) else (none)) = some r := by first | (rw [hy343]; with_reducible exact H) | (have H2_ := (Option.bind_some _ _).symm.trans H; rw [hy343]; with_reducible exact H2_) | (have H2_ := (Option.bind_some _ _).symm.trans H; with_reducible exact H2_) | with_reducible exact H | (rw [hy343]; exact H) | exact H
              have Ny343 := Aside0.mk hy343
              clear hy343
              obtain ⟨ji28, hji28⟩ : ∃ j_ : Int, (wrap64 ((t328.length : Int) - 1)) = j_ := ⟨_, rfl⟩
              replace H : (if 0 ≤ (ji28) then (if (ji28) ≤ (t328.length : Int) then ((some (t328.take ((ji28) : Int).toNat : List (S35))).bind fun y346 => (if y343.length + y346.length < 1759218604441 then (scantlinglaw03_LexOn.l1 k3 t333 x13_3 t338 t339 (y343 ++ y346) 0) else (none))) else (none)) else (none)) = some r := by first | (rw [hji28] at H; exact H) | (simp only [hji28] at H ⊢; exact H)
              (try rw [hji28] at A26)
              have hji28w : (IntKind.i64.wrap ((t328.length : Int) - 1)) = ji28 := (i64_w _).trans hji28
              by_cases c29 : 0 ≤ (ji28)
              case neg => rw [if_neg c29] at H; exact absurd H (by simp)
              rw [if_pos c29] at H
              have c29b0 := eq_true c29
              have c29b1 : decide (0 ≤ (ji28)) = true := decide_eq_true c29
              clear c29
              by_cases c30 : (ji28) ≤ (t328.length : Int)
              case neg => rw [if_neg c30] at H; exact absurd H (by simp)
              rw [if_pos c30] at H
              have c30b0 := eq_true c30
              have c30b1 : decide ((ji28) ≤ (t328.length : Int)) = true := decide_eq_true c30
              clear c30
              obtain ⟨y346, hy346⟩ : ∃ y_ : List (S35), y_ = (t328.take ((ji28) : Int).toNat) := ⟨_, rfl⟩
              replace H : (if y343.length + y346.length < 1759218604441 then (scantlinglaw03_LexOn.l1 k3 t333 x13_3 t338 t339 (y343 ++ y346) 0) else (none)) = some r := by first | (rw [hy346]; with_reducible exact H) | (have H2_ := (Option.bind_some _ _).symm.trans H; rw [hy346]; with_reducible exact H2_) | (have H2_ := (Option.bind_some _ _).symm.trans H; with_reducible exact H2_) | with_reducible exact H | (rw [hy346]; exact H) | exact H
              have Ny346 := Aside0.mk hy346
              clear hy346
              by_cases c31 : y343.length + y346.length < 1759218604441
              case neg => rw [if_neg c31] at H; exact absurd H (by simp)
              rw [if_pos c31] at H
              have LMc31 := Aside0.mk c31
              clear c31
              obtain ⟨y350, hy350⟩ : ∃ y_ : List (S35), y_ = (y343 ++ y346) := ⟨_, rfl⟩
              replace H : (scantlinglaw03_LexOn.l1 k3 t333 x13_3 t338 t339 y350 0) = some r := by first | (rw [hy350]; with_reducible exact H) | (have H2_ := (Option.bind_some _ _).symm.trans H; rw [hy350]; with_reducible exact H2_) | (have H2_ := (Option.bind_some _ _).symm.trans H; with_reducible exact H2_) | with_reducible exact H | (rw [hy350]; exact H) | exact H
              have Ny350 := Aside0.mk hy350
              clear hy350
              have H' := Aside0.mk H
              clear H
              go_wp2_with (first | ((with_reducible refine gate_callee (f := 11) rfl ?_); refine goesL_ (some 76) rfl rfl Tryd.func11 (by kernel_rfl) rfl #[.string (x14_3 ++ a1)] rfl (by (try simp only [List.map_toArray, List.map_cons, List.map_nil]); first | done | rfl | (simp only [List.length_drop, List.length_take]; rfl)) ?_; (with_reducible refine (lex_Read.calls k3 (x14_3 ++ a1) t338 t339 t340 _ ?side1 A26.out).mono ?_); (case side1 => exact (by repeat (first | exact hL_ | apply LaidW.drewN | apply LaidW.drew | refine LaidW.below hL_ (belx HB)))); rintro e w32 ⟨v341, rfl, ho0, hb⟩; refine ⟨_, rfl, ?_⟩; have n0_ := Aside0.mk (Kd.R_elder' (by (with_reducible repeat (first | apply Kd.R_alloc | apply Kd.R_drewN | apply Kd.R_drew)); exact HO_7.out) (Kd.R_base ho0) hb); have n1_ := Aside0.mk (Kd.R_elder' (by (with_reducible repeat (first | apply Kd.R_alloc | apply Kd.R_drewN | apply Kd.R_drew)); exact HO_10.out) (Kd.R_base ho0) hb); have n2_ := Aside0.mk (Kd.R_lower (Kd.R_new' (Kd.R_new' ho0 (Kd.R_lt (by (with_reducible repeat (first | apply Kd.R_alloc | apply Kd.R_drewN | apply Kd.R_drew)); exact HO_7.out))) (Kd.R_lt (by (with_reducible repeat (first | apply Kd.R_alloc | apply Kd.R_drewN | apply Kd.R_drew)); exact HO_10.out))) (below_size (belx HB))); have n3_ := Aside0.mk (below_step (belx HB) hb); clear HO_7; clear HO_10; clear HB; have HO_7 := n0_; have HO_10 := n1_; have HO342 := n2_; have HB := n3_; clear n0_ n1_ n2_ n3_; (try clear hb); (try clear hb2); (try clear hk); (try clear hi); (try clear ho0)) | ((with_reducible refine gate_dst (N := 97) rfl ?_); (try (refine gate_guard (by rfl) ?_; dsimp only)); refine Kd.R_lit k35 _ 35 ?hg (N := 97) ?hd (xs := ([] : List (S35))) (inner := []) (ok := fun _ => True) (okp := fun _ => True) ?hr ?hp (fun _ hk => hk) trivial (Below.refl _ _) (Nat.le_refl _) (by simp) ?_; (case hd => rfl); (case hg => rfl); (case hr => first | (go_simp; done) | (go_simp; rfl)); (case hp => exact (Reps.none _ _)); intro v344 w33 ho34 hb hg_ hnew_; clear hg_ hnew_; (first | rw [← Ny343.out] at ho34 | (simp only [Int.reduceToNat] at ho34; rw [← Ny343.out] at ho34)); have n0_ := Aside0.mk (Kd.R_elder' (by (with_reducible repeat (first | apply Kd.R_alloc | apply Kd.R_drewN | apply Kd.R_drew)); exact HO_7.out) (Kd.R_base ho34) hb); have n1_ := Aside0.mk (Kd.R_elder' (by (with_reducible repeat (first | apply Kd.R_alloc | apply Kd.R_drewN | apply Kd.R_drew)); exact HO_10.out) (Kd.R_base ho34) hb); have n2_ := Aside0.mk (Kd.R_elder' (by (with_reducible repeat (first | apply Kd.R_alloc | apply Kd.R_drewN | apply Kd.R_drew)); exact HO342.out) (Kd.R_base ho34) hb); have n3_ := Aside0.mk (Kd.R_lower (Kd.R_new' (Kd.R_new' (Kd.R_new' ho34 (Kd.R_lt (by (with_reducible repeat (first | apply Kd.R_alloc | apply Kd.R_drewN | apply Kd.R_drew)); exact HO_7.out))) (Kd.R_lt (by (with_reducible repeat (first | apply Kd.R_alloc | apply Kd.R_drewN | apply Kd.R_drew)); exact HO_10.out))) (Kd.R_lt (by (with_reducible repeat (first | apply Kd.R_alloc | apply Kd.R_drewN | apply Kd.R_drew)); exact HO342.out))) (below_size (belx HB))); have n4_ := Aside0.mk (below_step (belx HB) hb); clear HO_7; clear HO_10; clear HO342; clear HB; have HO_7 := n0_; have HO_10 := n1_; have HO342 := n2_; have HO345 := n3_; have HB := n4_; clear n0_ n1_ n2_ n3_ n4_; clear hb ho34; obtain ⟨Ao35, co35, eo35⟩ := Kd.R_slice HO_7.out; subst eo35; have q36 : ((ji28) : Int) ≤ ((t328.length : Int) : Int) := odt; obtain ⟨i036, hi036, _, hsz36, _⟩ := info_parts info35; have hroom36 : t328.length ≤ co35 := (Kd.R_reads' HO_7.out).2.1; have hC36 : Kd.C k35 _ Ao35 t328.length t328 := (Kd.R_reads' HO_7.out).2.2; have hcut36 := cut_to (P := Tryd.prog) 23 35 .i64 Tryd.underlying23 hi036 Ao35 t328.length co35 (ji28) (odt) q36 hroom36; have hr36 := Kd.C_take (m := ((ji28) : Int).toNat) hC36 (by omega); have hy36 : y346.length = ((ji28) : Int).toNat := (by rw [Ny346.out, List.length_take]; omega); rw [← Ny346.out] at hr36; rw [← hy36] at hcut36; have HR349 := Aside0.mk hr36; have HC349 := Aside0.mk (show y346.length ≤ co35 from by omega); clear hr36 hC36 hroom36 hi036 hsz36; have KY36 := Aside0.mk hy36; clear hy36; have KL36 := Aside0.mk (show ((ji28) : Int).toNat ≤ t328.length from by omega); replace q36 := eq_true q36) | ((with_reducible refine gate_builtin (b := .append) (xs := #[.tmp 97, .tmp 102]) rfl ?_); (try (refine gate_guard (by rfl) ?_; dsimp only)); at_builtin; refine Kd.R_append_rows k35 (w0 := w) w.heap.size rfl (.tmp 97) (.tmp 102) 23 35 (.agg #[(.int .i64 0), (.int .i64 0), (.int .u64 0), (.int .u64 0), (.int .u64 0), (.int .u64 0), (.string ⟨#[]⟩), (.int .i64 0), (.int .i64 0)]) 80 rfl Tryd.underlying23 info35 rfl (by decide) (by omega) v344 y343 y346 _ _ _ (fun k_ => some k_ ≠ (.slice Ao35 t328.length co35 : Value).ownBlock ∧ some k_ ≠ (v336 : Value).ownBlock ∧ some k_ ≠ (v341 : Value).ownBlock) (fun _ => False) rfl rfl ?aO ?aR (fun _ _ h => h) (fun _ h => h.elim) ?aF ?aB ?aS ?aL ?_; (case aR => repeat (first | exact (by repeat (first | (with_reducible exact HR349.out) | (with_reducible refine Kd.C_alloc ?_ _) | (with_reducible refine Kd.C_drewN ?_ _) | (with_reducible refine Kd.C_drew ?_) | exact HR349.out)) | (with_reducible refine Kd.C_alloc ?_ _) | (with_reducible refine Kd.C_drewN ?_ _) | (with_reducible refine Kd.C_drew ?_))); (case aB => exact (belx HB)); (case aF => exact (fun k_ hk => ⟨Kd.fresh' (Kd.R_lt (by (with_reducible repeat (first | apply Kd.R_alloc | apply Kd.R_drewN | apply Kd.R_drew)); exact HO_7.out)) k_ hk, Kd.fresh' (Kd.R_lt (by (with_reducible repeat (first | apply Kd.R_alloc | apply Kd.R_drewN | apply Kd.R_drew)); exact HO_10.out)) k_ hk, Kd.fresh' (Kd.R_lt (by (with_reducible repeat (first | apply Kd.R_alloc | apply Kd.R_drewN | apply Kd.R_drew)); exact HO342.out)) k_ hk⟩)); (case aO => exact (by (with_reducible repeat (first | apply Kd.R_alloc | apply Kd.R_drewN | apply Kd.R_drew)); exact Kd.R_mono HO345.out (fun _ hk => ⟨hk.1.1.2, ⟨hk.1.2, hk.2⟩⟩))); (case aS => exact (below_size (belx HB))); (case aL => have := LMc31.out; omega); intro v351 w37 ho hb hg hat; rw [← Ny350.out] at ho; have n0_ := Aside0.mk (Kd.R_after (ok := (fun k_ => some k_ ≠ (v336 : Value).ownBlock ∧ some k_ ≠ (v341 : Value).ownBlock)) (by (with_reducible repeat (first | apply Kd.R_alloc | apply Kd.R_drewN | apply Kd.R_drew)); exact HO_7.out) hg hat); have n1_ := Aside0.mk (Kd.R_after (ok := (fun k_ => some k_ ≠ (.slice Ao35 t328.length co35 : Value).ownBlock ∧ some k_ ≠ (v341 : Value).ownBlock)) (by (with_reducible repeat (first | apply Kd.R_alloc | apply Kd.R_drewN | apply Kd.R_drew)); exact HO_10.out) hg hat); have n2_ := Aside0.mk (Kd.R_after (ok := (fun k_ => some k_ ≠ (.slice Ao35 t328.length co35 : Value).ownBlock ∧ some k_ ≠ (v336 : Value).ownBlock)) (by (with_reducible repeat (first | apply Kd.R_alloc | apply Kd.R_drewN | apply Kd.R_drew)); exact Kd.R_mono HO342.out (fun _ hk => ⟨⟨hk.1.1.2, hk.1.2⟩, hk.2⟩)) hg hat); have n3_ := Aside0.mk (hb); have n4_ := Aside0.mk ((show Kd.C k35 w37 Ao35 y346.length y346 from by rw [Ny346.out]; exact Kd.C_take (m := ((ji28) : Int).toNat) ((Kd.R_reads' (Kd.R_after (ok := (fun k_ => some k_ ≠ (v336 : Value).ownBlock ∧ some k_ ≠ (v341 : Value).ownBlock)) (by (with_reducible repeat (first | apply Kd.R_alloc | apply Kd.R_drewN | apply Kd.R_drew)); exact HO_7.out) hg hat)).2.2) KL36.out)); have n5_ := Aside0.mk (ho); clear HO_7; clear HO_10; clear HO342; clear HB; clear HR349; clear HO345; have HO_7 := n0_; have HO_10 := n1_; have HO342 := n2_; have HB := n3_; have HR349 := n4_; have HO352 := n5_; clear n0_ n1_ n2_ n3_ n4_ n5_; clear ho hb hg hat))
              go_loopg [19, 20] k3 (fun kq v19 v20 w' => ∃ (x19_4 : List (S35)) (x20_4 : Int), v20 = .int .i64 x20_4 ∧ Aside0 (scantlinglaw03_LexOn.l1 kq t333 x13_3 t338 t339 x19_4 x20_4 = some r) ∧ Aside0 (kq ≤ k3) ∧ Aside0 (Kd.R k35 35 w' w.heap.size (fun k_ => some k_ ≠ (v341 : Value).ownBlock ∧ some k_ ≠ (v19 : Value).ownBlock) v336 t333) ∧ Aside0 (Kd.R k35 35 w' w.heap.size (fun k_ => some k_ ≠ (v336 : Value).ownBlock ∧ some k_ ≠ (v19 : Value).ownBlock) v341 t338) ∧ Aside0 (Kd.R k35 35 w' w.heap.size (fun k_ => some k_ ≠ (v336 : Value).ownBlock ∧ some k_ ≠ (v341 : Value).ownBlock) v19 x19_4) ∧ Aside0 (Below w.heap.size w w'))
              case atStart => exact ⟨(y350), (0), (by first | rfl | (simp; done) | (simp [*]; done) | exact congrArg (Value.int .i64) (by unfold wrap64; omega)), (by first | exact H' | (subst_vars; exact H')), ⟨Nat.le_refl _⟩, ⟨by (with_reducible repeat (first | apply Kd.R_alloc | apply Kd.R_drewN | apply Kd.R_drew)); exact Kd.R_mono HO_10.out (fun _ hk => ⟨hk.1.2, hk.2⟩)⟩, ⟨by (with_reducible repeat (first | apply Kd.R_alloc | apply Kd.R_drewN | apply Kd.R_drew)); exact Kd.R_mono HO342.out (fun _ hk => ⟨hk.1.2, hk.2⟩)⟩, ⟨by (with_reducible repeat (first | apply Kd.R_alloc | apply Kd.R_drewN | apply Kd.R_drew)); exact Kd.R_mono HO352.out (fun _ hk => ⟨hk.2.1, hk.2.2⟩)⟩, ⟨belx HB⟩⟩
              case round =>
                clear H'
                try clear c11; try clear c21; try clear c22; try clear c22b0; try clear c22b1; try clear c22b2; try clear c23; try clear c23b0; try clear c25; try clear c25b0; try clear c25b1; try clear c25b2; try clear c27; try clear c27b0; try clear c27b1; try clear c29; try clear c29b0; try clear c29b1; try clear c30; try clear c30b0; try clear c30b1; try clear c31; try clear q36; try clear q36
                obtain ⟨x19_4, x20_4, rfl, HA, HK4, HO_10, HO_16, HO_19, HB⟩ := hrel
                cases gk with
                | zero => exact absurd HA.out (by simp [scantlinglaw03_LexOn.l1])
                | succ k4 =>
                  have H := HA.out
                  clear HA
                  simp only [scantlinglaw03_LexOn.l1] at H
                  by_cases c38 : x20_4 < (t333.length : Int)
                  case neg =>
                    rw [if_neg c38] at H
                    have c38b0 : decide (x20_4 < (t333.length : Int)) = false := decide_eq_false c38
                    clear c38
                    by_cases c47 : t339 = 0
                    case neg =>
                      rw [if_neg c47] at H
                      have c47b0 : (t339 == 0) = false := beq_eq_false_iff_ne.mpr c47
                      have c47b1 : (t339 != 0) = true := bne_iff_ne.mpr c47
                      obtain rfl := Option.some.inj H
                      obtain ⟨Ao52, co52, eo52⟩ := Kd.R_slice HO_10.out
                      subst eo52
                      go_wp2
                      go_ret
                      exact ⟨by first | rfl | (simp [errW_none, errW_some] <;> rfl) | (simp only [← hji28]; first | rfl | (simp [errW_none, errW_some] <;> rfl)) | (simp [*, errW_none, errW_some] <;> rfl), belx HB⟩
                    rw [if_pos c47] at H
                    have c47b0 : (t339 == 0) = true := beq_iff_eq.mpr c47
                    have c47b1 : (t339 != 0) = false := bne_eq_false_iff_eq.mpr c47
                    clear c47
                    replace H := Option.bind_eq_some_iff.mp H
                    obtain ⟨t358, A480, H⟩ := H
                    replace H : (some t358) = some r := H
                    have A48 := Aside0.mk A480
                    clear A480
                    obtain rfl := Option.some.inj H
                    obtain ⟨Ao49, co49, eo49⟩ := Kd.R_slice HO_10.out
                    subst eo49
                    obtain ⟨Ao50, co50, eo50⟩ := Kd.R_slice HO_16.out
                    subst eo50
                    obtain ⟨Ao51, co51, eo51⟩ := Kd.R_slice HO_19.out
                    subst eo51
                    go_wp2_with (first | (go_at_call 13; (with_reducible refine (scantlingref03_Same.calls k4 _ _ t338 _ _ x19_4 t358 _ ?side1 ?side2 ?side3 ?side4 A48.out).mono ?_); (case side1 => repeat (first | exact (Kd.R_reads' HO_16.out).2.2 | (with_reducible refine Kd.C_alloc ?_ _) | (with_reducible refine Kd.C_drewN ?_ _) | (with_reducible refine Kd.C_drew ?_))); (case side2 => exact (Kd.R_reads' HO_16.out).2.1); (case side3 => repeat (first | exact (Kd.R_reads' HO_19.out).2.2 | (with_reducible refine Kd.C_alloc ?_ _) | (with_reducible refine Kd.C_drewN ?_ _) | (with_reducible refine Kd.C_drew ?_))); (case side4 => exact (Kd.R_reads' HO_19.out).2.1); rintro e w' ⟨rfl, ⟨nd, rfl⟩⟩))
                    go_ret
                    exact ⟨by first | rfl | (simp [errW_none, errW_some] <;> rfl) | (simp only [← hji28]; first | rfl | (simp [errW_none, errW_some] <;> rfl)) | (simp [*, errW_none, errW_some] <;> rfl), belx HB⟩
                  rw [if_pos c38] at H
                  have c38b0 : decide (x20_4 < (t333.length : Int)) = true := decide_eq_true c38
                  clear c38
                  by_cases c39 : 0 ≤ x20_4
                  case neg => rw [if_neg c39] at H; exact absurd H (by simp)
                  rw [if_pos c39] at H
                  have c39b0 : decide (0 ≤ x20_4) = true := decide_eq_true c39
                  clear c39
                  by_cases c40 : x19_4.length < 1759218604441
                  case neg => rw [if_neg c40] at H; exact absurd H (by simp)
                  rw [if_pos c40] at H
                  have LMc40 := Aside0.mk c40
                  clear c40
                  obtain ⟨y355, hy355⟩ : ∃ y_ : List (S35), y_ = (x19_4 ++ [(⟨(rd_T35 t333 x20_4).f0, wrap64 (((rd_T35 t333 x20_4).f1) + x13_3), (⟨(rd_T35 t333 x20_4).f2.f0, (rd_T35 t333 x20_4).f2.f1, (rd_T35 t333 x20_4).f2.f2, (rd_T35 t333 x20_4).f2.f3⟩ : S33), (rd_T35 t333 x20_4).f3, (rd_T35 t333 x20_4).f4, (rd_T35 t333 x20_4).f5⟩ : S35)]) := ⟨_, rfl⟩
                  replace H : (scantlinglaw03_LexOn.l1 k4 t333 x13_3 t338 t339 y355 (wrap64 (x20_4 + 1))) = some r := by first | (rw [hy355]; with_reducible exact H) | (have H2_ := (Option.bind_some _ _).symm.trans H; rw [hy355]; with_reducible exact H2_) | (have H2_ := (Option.bind_some _ _).symm.trans H; with_reducible exact H2_) | with_reducible exact H | (rw [hy355]; exact H) | exact H
                  have Ny355 := Aside0.mk hy355
                  clear hy355
                  have H' := Aside0.mk H
                  clear H
                  obtain ⟨Ao41, co41, eo41⟩ := Kd.R_slice HO_10.out
                  subst eo41
                  have p353 : 0 ≤ (x20_4 : Int) := odt
                  have q353 : x20_4 < (t333.length : Int) := odt
                  obtain ⟨ad353, e353, hx353_0, hx353_1, hx353_2, hx353_3, hx353_4, hx353_5, hx353_6, hx353_7, hx353_8⟩ := at_T35 (Kd.R_reads' HO_10.out).2.2 x20_4 p353 q353
                  cases e353
                  replace p353 := eq_true p353
                  replace q353 := eq_true q353
                  go_wp2_with (first | ((with_reducible refine gate_dst (N := 21) rfl ?_); (try (refine gate_guard (by rfl) ?_; dsimp only)); refine box_event ?hg (N := 21) ?hd (cs := #[.int .i64 0, .int .i64 0, .int .u64 0, .int .u64 0, .int .u64 0, .int .u64 0, .string (⟨#[]⟩ : ByteArray), .int .i64 0, .int .i64 0]) (t := 35) ?hr ?_; (case hd => rfl); (case hg => rfl); (case hr => first | (go_simp; done) | (go_simp; rfl)); intro gb354 hg w42 hbox hb; have n0_ := Aside0.mk (Kd.R_below (Kd.R_elderB (by (with_reducible repeat (first | apply Kd.R_alloc | apply Kd.R_drewN | apply Kd.R_drew)); exact HO_10.out) gb354 (Nat.le_of_eq hg.symm)) hb); have n1_ := Aside0.mk (Kd.R_below (Kd.R_elderB (by (with_reducible repeat (first | apply Kd.R_alloc | apply Kd.R_drewN | apply Kd.R_drew)); exact HO_16.out) gb354 (Nat.le_of_eq hg.symm)) hb); have n2_ := Aside0.mk (Kd.R_below (Kd.R_elderB (by (with_reducible repeat (first | apply Kd.R_alloc | apply Kd.R_drewN | apply Kd.R_drew)); exact HO_19.out) gb354 (Nat.le_of_eq hg.symm)) hb); have n3_ := Aside0.mk (below_step (belx HB) hb); have n4_ := Aside0.mk (hbox); have n5_ := Aside0.mk ((by rw [hg]; exact (below_size (belx HB)) : w.heap.size ≤ gb354)); have n6_ := Aside0.mk ((by rw [hg]; exact (below_size (belx HB)) : w.heap.size ≤ gb354)); clear HO_10; clear HO_16; clear HO_19; clear HB; have HO_10 := n0_; have HO_16 := n1_; have HO_19 := n2_; have HB := n3_; have BK354 := n4_; have GW354 := n5_; have GE354 := n6_; clear n0_ n1_ n2_ n3_ n4_ n5_ n6_; clear hb hbox hg; obtain ⟨hcz43_0, hcz43_1, hcz43_2, hcz43_3, hcz43_4, hcz43_5, hcz43_6, hcz43_7, hcz43_8, hfz43_0, hfz43_1, hfz43_2, hfz43_3, hfz43_4, hfz43_5, hfz43_6, hfz43_7, hfz43_8⟩ := cells9 BK354.out) | ((with_reducible refine gate_store (t := 35) (p := 21) rfl ?_); refine store_event (t := 35) (p := 21) (v := ?vo_w44) (w1 := (((((((((w42.setCell ⟨gb354, 0, none⟩ (.int .i64 ((rd_T35 t333 x20_4).f0))).setCell ⟨gb354, 1, none⟩ (.int .i64 ((rd_T35 t333 x20_4).f1))).setCell ⟨gb354, 2, none⟩ (.int .u64 ((rd_T35 t333 x20_4).f2.f0))).setCell ⟨gb354, 3, none⟩ (.int .u64 ((rd_T35 t333 x20_4).f2.f1))).setCell ⟨gb354, 4, none⟩ (.int .u64 ((rd_T35 t333 x20_4).f2.f2))).setCell ⟨gb354, 5, none⟩ (.int .u64 ((rd_T35 t333 x20_4).f2.f3))).setCell ⟨gb354, 6, none⟩ (.string ((rd_T35 t333 x20_4).f3))).setCell ⟨gb354, 7, none⟩ (.int .i64 ((rd_T35 t333 x20_4).f4))).setCell ⟨gb354, 8, none⟩ (.int .i64 ((rd_T35 t333 x20_4).f5)))) ?hg ?ho ?hn ?hr ?_; (case ho => rfl); (case hg => rfl); (case hn => rfl); (case hr => first | (go_simp; done) | (go_simp; rfl)); intro w44 hw; have n0_ : Aside0 (Kd.R k35 35 w44 w.heap.size (fun k_ => some k_ ≠ (v341 : Value).ownBlock ∧ some k_ ≠ (u19 : Value).ownBlock ∧ k_ ≠ gb354) (.slice (some ad353) t333.length co41) t333) := ⟨(by rw [hw]; exact (by (with_reducible repeat (first | apply Kd.R_alloc | apply Kd.R_drewN | apply Kd.R_drew)); exact Kd.R_mono (Kd.R_far (p := ⟨gb354, 8, none⟩) (Kd.R_far (p := ⟨gb354, 7, none⟩) (Kd.R_far (p := ⟨gb354, 6, none⟩) (Kd.R_far (p := ⟨gb354, 5, none⟩) (Kd.R_far (p := ⟨gb354, 4, none⟩) (Kd.R_far (p := ⟨gb354, 3, none⟩) (Kd.R_far (p := ⟨gb354, 2, none⟩) (Kd.R_far (p := ⟨gb354, 1, none⟩) (Kd.R_far (p := ⟨gb354, 0, none⟩) (Kd.R_mono HO_10.out (fun k_ hk => (⟨hk, hk.2⟩ : _ ∧ k_ ≠ gb354))) (fun _ hk => hk.2) (.int .i64 ((rd_T35 t333 x20_4).f0))) (fun _ hk => hk.2) (.int .i64 ((rd_T35 t333 x20_4).f1))) (fun _ hk => hk.2) (.int .u64 ((rd_T35 t333 x20_4).f2.f0))) (fun _ hk => hk.2) (.int .u64 ((rd_T35 t333 x20_4).f2.f1))) (fun _ hk => hk.2) (.int .u64 ((rd_T35 t333 x20_4).f2.f2))) (fun _ hk => hk.2) (.int .u64 ((rd_T35 t333 x20_4).f2.f3))) (fun _ hk => hk.2) (.string ((rd_T35 t333 x20_4).f3))) (fun _ hk => hk.2) (.int .i64 ((rd_T35 t333 x20_4).f4))) (fun _ hk => hk.2) (.int .i64 ((rd_T35 t333 x20_4).f5))) (fun _ hk => ⟨hk.1.1.1, ⟨hk.1.1.2, hk.1.2⟩⟩)))⟩; have n1_ : Aside0 (Kd.R k35 35 w44 w.heap.size (fun k_ => some k_ ≠ (.slice (some ad353) t333.length co41 : Value).ownBlock ∧ some k_ ≠ (u19 : Value).ownBlock ∧ k_ ≠ gb354) v341 t338) := ⟨(by rw [hw]; exact (by (with_reducible repeat (first | apply Kd.R_alloc | apply Kd.R_drewN | apply Kd.R_drew)); exact Kd.R_mono (Kd.R_far (p := ⟨gb354, 8, none⟩) (Kd.R_far (p := ⟨gb354, 7, none⟩) (Kd.R_far (p := ⟨gb354, 6, none⟩) (Kd.R_far (p := ⟨gb354, 5, none⟩) (Kd.R_far (p := ⟨gb354, 4, none⟩) (Kd.R_far (p := ⟨gb354, 3, none⟩) (Kd.R_far (p := ⟨gb354, 2, none⟩) (Kd.R_far (p := ⟨gb354, 1, none⟩) (Kd.R_far (p := ⟨gb354, 0, none⟩) (Kd.R_mono HO_16.out (fun k_ hk => (⟨hk, hk.2⟩ : _ ∧ k_ ≠ gb354))) (fun _ hk => hk.2) (.int .i64 ((rd_T35 t333 x20_4).f0))) (fun _ hk => hk.2) (.int .i64 ((rd_T35 t333 x20_4).f1))) (fun _ hk => hk.2) (.int .u64 ((rd_T35 t333 x20_4).f2.f0))) (fun _ hk => hk.2) (.int .u64 ((rd_T35 t333 x20_4).f2.f1))) (fun _ hk => hk.2) (.int .u64 ((rd_T35 t333 x20_4).f2.f2))) (fun _ hk => hk.2) (.int .u64 ((rd_T35 t333 x20_4).f2.f3))) (fun _ hk => hk.2) (.string ((rd_T35 t333 x20_4).f3))) (fun _ hk => hk.2) (.int .i64 ((rd_T35 t333 x20_4).f4))) (fun _ hk => hk.2) (.int .i64 ((rd_T35 t333 x20_4).f5))) (fun _ hk => ⟨hk.1.1.1, ⟨hk.1.1.2, hk.1.2⟩⟩)))⟩; have n2_ : Aside0 (Kd.R k35 35 w44 w.heap.size (fun k_ => some k_ ≠ (.slice (some ad353) t333.length co41 : Value).ownBlock ∧ some k_ ≠ (v341 : Value).ownBlock ∧ k_ ≠ gb354) u19 x19_4) := ⟨(by rw [hw]; exact (by (with_reducible repeat (first | apply Kd.R_alloc | apply Kd.R_drewN | apply Kd.R_drew)); exact Kd.R_mono (Kd.R_far (p := ⟨gb354, 8, none⟩) (Kd.R_far (p := ⟨gb354, 7, none⟩) (Kd.R_far (p := ⟨gb354, 6, none⟩) (Kd.R_far (p := ⟨gb354, 5, none⟩) (Kd.R_far (p := ⟨gb354, 4, none⟩) (Kd.R_far (p := ⟨gb354, 3, none⟩) (Kd.R_far (p := ⟨gb354, 2, none⟩) (Kd.R_far (p := ⟨gb354, 1, none⟩) (Kd.R_far (p := ⟨gb354, 0, none⟩) (Kd.R_mono HO_19.out (fun k_ hk => (⟨hk, hk.2⟩ : _ ∧ k_ ≠ gb354))) (fun _ hk => hk.2) (.int .i64 ((rd_T35 t333 x20_4).f0))) (fun _ hk => hk.2) (.int .i64 ((rd_T35 t333 x20_4).f1))) (fun _ hk => hk.2) (.int .u64 ((rd_T35 t333 x20_4).f2.f0))) (fun _ hk => hk.2) (.int .u64 ((rd_T35 t333 x20_4).f2.f1))) (fun _ hk => hk.2) (.int .u64 ((rd_T35 t333 x20_4).f2.f2))) (fun _ hk => hk.2) (.int .u64 ((rd_T35 t333 x20_4).f2.f3))) (fun _ hk => hk.2) (.string ((rd_T35 t333 x20_4).f3))) (fun _ hk => hk.2) (.int .i64 ((rd_T35 t333 x20_4).f4))) (fun _ hk => hk.2) (.int .i64 ((rd_T35 t333 x20_4).f5))) (fun _ hk => ⟨hk.1.1.1, ⟨hk.1.1.2, hk.1.2⟩⟩)))⟩; have n3_ : Aside0 (w44.heap[gb354]? = some (.cells #[.int .i64 ((rd_T35 t333 x20_4).f0), .int .i64 ((rd_T35 t333 x20_4).f1), .int .u64 ((rd_T35 t333 x20_4).f2.f0), .int .u64 ((rd_T35 t333 x20_4).f2.f1), .int .u64 ((rd_T35 t333 x20_4).f2.f2), .int .u64 ((rd_T35 t333 x20_4).f2.f3), .string ((rd_T35 t333 x20_4).f3), .int .i64 ((rd_T35 t333 x20_4).f4), .int .i64 ((rd_T35 t333 x20_4).f5)] 35 (0, 0))) := ⟨(by rw [hw]; exact (by (with_reducible repeat (first | refine blk_drewN ?_ _ | refine blk_drew ?_ | refine blk_alloc ?_ _)); exact put9h BK354.out))⟩; have n4_ : Aside0 (Below w.heap.size w w44) := ⟨(by rw [hw]; exact (belx1 HB GE354))⟩; clear hw; clear HO_10; clear HO_16; clear HO_19; clear BK354; clear HB; have HO_10 := n0_; have HO_16 := n1_; have HO_19 := n2_; have BK354 := n3_; have HB := n4_; clear n0_ n1_ n2_ n3_ n4_; obtain ⟨hcz45_0, hcz45_1, hcz45_2, hcz45_3, hcz45_4, hcz45_5, hcz45_6, hcz45_7, hcz45_8, hfz45_0, hfz45_1, hfz45_2, hfz45_3, hfz45_4, hfz45_5, hfz45_6, hfz45_7, hfz45_8⟩ := cells9 BK354.out) | ((with_reducible refine gate_builtin (b := .append) (xs := #[.tmp 119, .tmp 121]) rfl ?_); (try (refine gate_guard (by rfl) ?_; dsimp only)); at_builtin; refine Kd.R_append k35 (w0 := w) w.heap.size rfl (.tmp 119) (.tmp 121) 23 35 (.agg #[(.int .i64 0), (.int .i64 0), (.int .u64 0), (.int .u64 0), (.int .u64 0), (.int .u64 0), (.string ⟨#[]⟩), (.int .i64 0), (.int .i64 0)]) 80 rfl Tryd.underlying23 info35 rfl (by decide) (by omega) u19 x19_4 (⟨(rd_T35 t333 x20_4).f0, wrap64 (((rd_T35 t333 x20_4).f1) + x13_3), (⟨(rd_T35 t333 x20_4).f2.f0, (rd_T35 t333 x20_4).f2.f1, (rd_T35 t333 x20_4).f2.f2, (rd_T35 t333 x20_4).f2.f3⟩ : S33), (rd_T35 t333 x20_4).f3, (rd_T35 t333 x20_4).f4, (rd_T35 t333 x20_4).f5⟩ : S35) [.int .i64 ((rd_T35 t333 x20_4).f0), .int .i64 (wrap64 (((rd_T35 t333 x20_4).f1) + x13_3)), .int .u64 ((rd_T35 t333 x20_4).f2.f0), .int .u64 ((rd_T35 t333 x20_4).f2.f1), .int .u64 ((rd_T35 t333 x20_4).f2.f2), .int .u64 ((rd_T35 t333 x20_4).f2.f3), .string ((rd_T35 t333 x20_4).f3), .int .i64 ((rd_T35 t333 x20_4).f4), .int .i64 ((rd_T35 t333 x20_4).f5)] (fun k_ => some k_ ≠ (.slice (some ad353) t333.length co41 : Value).ownBlock ∧ some k_ ≠ (v341 : Value).ownBlock ∧ k_ ≠ gb354) (fun _ => False) rfl (by first | (go_simp; done) | (go_simp; rfl)) ?aP (fun _ hk => hk.elim) ?aF ?aO ?aB ?aS ?aL ?_; (case aP => exact k35_mkM _ _ _ (⟨(rd_T35 t333 x20_4).f0, wrap64 (((rd_T35 t333 x20_4).f1) + x13_3), (⟨(rd_T35 t333 x20_4).f2.f0, (rd_T35 t333 x20_4).f2.f1, (rd_T35 t333 x20_4).f2.f2, (rd_T35 t333 x20_4).f2.f3⟩ : S33), (rd_T35 t333 x20_4).f3, (rd_T35 t333 x20_4).f4, (rd_T35 t333 x20_4).f5⟩ : S35)); (case aB => exact (belx1 HB GE354)); (case aF => exact (fun k_ hk => ⟨Kd.fresh' (Kd.R_lt (by (with_reducible repeat (first | apply Kd.R_alloc | apply Kd.R_drewN | apply Kd.R_drew)); exact (Kd.R_mono (Kd.R_far (p := ⟨gb354, 1, none⟩) (Kd.R_mono HO_10.out (fun k_ hk => (⟨hk, hk.2.2⟩ : _ ∧ k_ ≠ gb354))) (fun _ hk => hk.2) (.int .i64 (wrap64 (((rd_T35 t333 x20_4).f1) + x13_3)))) (fun _ h_ => h_.1)))) k_ hk, Kd.fresh' (Kd.R_lt (by (with_reducible repeat (first | apply Kd.R_alloc | apply Kd.R_drewN | apply Kd.R_drew)); exact (Kd.R_mono (Kd.R_far (p := ⟨gb354, 1, none⟩) (Kd.R_mono HO_16.out (fun k_ hk => (⟨hk, hk.2.2⟩ : _ ∧ k_ ≠ gb354))) (fun _ hk => hk.2) (.int .i64 (wrap64 (((rd_T35 t333 x20_4).f1) + x13_3)))) (fun _ h_ => h_.1)))) k_ hk, Kd.freshB (g := gb354) (o := .cells #[.int .i64 ((rd_T35 t333 x20_4).f0), .int .i64 (wrap64 (((rd_T35 t333 x20_4).f1) + x13_3)), .int .u64 ((rd_T35 t333 x20_4).f2.f0), .int .u64 ((rd_T35 t333 x20_4).f2.f1), .int .u64 ((rd_T35 t333 x20_4).f2.f2), .int .u64 ((rd_T35 t333 x20_4).f2.f3), .string ((rd_T35 t333 x20_4).f3), .int .i64 ((rd_T35 t333 x20_4).f4), .int .i64 ((rd_T35 t333 x20_4).f5)] 35 (0, 0)) (by (with_reducible repeat (first | refine blk_drewN ?_ _ | refine blk_drew ?_ | refine blk_alloc ?_ _)); refine blk_put (cs := #[.int .i64 ((rd_T35 t333 x20_4).f0), .int .i64 ((rd_T35 t333 x20_4).f1), .int .u64 ((rd_T35 t333 x20_4).f2.f0), .int .u64 ((rd_T35 t333 x20_4).f2.f1), .int .u64 ((rd_T35 t333 x20_4).f2.f2), .int .u64 ((rd_T35 t333 x20_4).f2.f3), .string ((rd_T35 t333 x20_4).f3), .int .i64 ((rd_T35 t333 x20_4).f4), .int .i64 ((rd_T35 t333 x20_4).f5)]) ?_ 1 _ rfl; (with_reducible repeat (first | refine blk_drewN ?_ _ | refine blk_drew ?_ | refine blk_alloc ?_ _)); exact BK354.out) k_ hk⟩)); (case aO => exact (by (with_reducible repeat (first | apply Kd.R_alloc | apply Kd.R_drewN | apply Kd.R_drew)); exact Kd.R_mono (Kd.R_far (p := ⟨gb354, 1, none⟩) (Kd.R_mono HO_19.out (fun k_ hk => (⟨hk, hk.2.2⟩ : _ ∧ k_ ≠ gb354))) (fun _ hk => hk.2) (.int .i64 (wrap64 (((rd_T35 t333 x20_4).f1) + x13_3)))) (fun _ hk => ⟨hk.1.1, ⟨hk.1.2.1, hk.1.2.2⟩⟩))); (case aS => exact (below_size (belx1 HB GE354))); (case aL => have := LMc40.out; omega); intro v356 w46 ho hb hg hat; rw [← Ny355.out] at ho; have n0_ := Aside0.mk (Kd.R_after (ok := (fun k_ => some k_ ≠ (v341 : Value).ownBlock ∧ k_ ≠ gb354)) (by (with_reducible repeat (first | apply Kd.R_alloc | apply Kd.R_drewN | apply Kd.R_drew)); exact Kd.R_mono (Kd.R_far (p := ⟨gb354, 1, none⟩) (Kd.R_mono HO_10.out (fun k_ hk => (⟨hk, hk.2.2⟩ : _ ∧ k_ ≠ gb354))) (fun _ hk => hk.2) (.int .i64 (wrap64 (((rd_T35 t333 x20_4).f1) + x13_3)))) (fun _ hk => ⟨⟨hk.1.1, hk.1.2.2⟩, hk.1.2.1⟩)) hg hat); have n1_ := Aside0.mk (Kd.R_after (ok := (fun k_ => some k_ ≠ (.slice (some ad353) t333.length co41 : Value).ownBlock ∧ k_ ≠ gb354)) (by (with_reducible repeat (first | apply Kd.R_alloc | apply Kd.R_drewN | apply Kd.R_drew)); exact Kd.R_mono (Kd.R_far (p := ⟨gb354, 1, none⟩) (Kd.R_mono HO_16.out (fun k_ hk => (⟨hk, hk.2.2⟩ : _ ∧ k_ ≠ gb354))) (fun _ hk => hk.2) (.int .i64 (wrap64 (((rd_T35 t333 x20_4).f1) + x13_3)))) (fun _ hk => ⟨⟨hk.1.1, hk.1.2.2⟩, hk.1.2.1⟩)) hg hat); have n2_ := Aside0.mk (blk_grown (g := gb354) (o := .cells #[.int .i64 ((rd_T35 t333 x20_4).f0), .int .i64 (wrap64 (((rd_T35 t333 x20_4).f1) + x13_3)), .int .u64 ((rd_T35 t333 x20_4).f2.f0), .int .u64 ((rd_T35 t333 x20_4).f2.f1), .int .u64 ((rd_T35 t333 x20_4).f2.f2), .int .u64 ((rd_T35 t333 x20_4).f2.f3), .string ((rd_T35 t333 x20_4).f3), .int .i64 ((rd_T35 t333 x20_4).f4), .int .i64 ((rd_T35 t333 x20_4).f5)] 35 (0, 0)) (by (with_reducible repeat (first | refine blk_drewN ?_ _ | refine blk_drew ?_ | refine blk_alloc ?_ _)); refine blk_put (cs := #[.int .i64 ((rd_T35 t333 x20_4).f0), .int .i64 ((rd_T35 t333 x20_4).f1), .int .u64 ((rd_T35 t333 x20_4).f2.f0), .int .u64 ((rd_T35 t333 x20_4).f2.f1), .int .u64 ((rd_T35 t333 x20_4).f2.f2), .int .u64 ((rd_T35 t333 x20_4).f2.f3), .string ((rd_T35 t333 x20_4).f3), .int .i64 ((rd_T35 t333 x20_4).f4), .int .i64 ((rd_T35 t333 x20_4).f5)]) ?_ 1 _ rfl; (with_reducible repeat (first | refine blk_drewN ?_ _ | refine blk_drew ?_ | refine blk_alloc ?_ _)); exact BK354.out) hg (Kd.R_away HO_19.out (fun _ hk => hk.2.2))); have n3_ := Aside0.mk (hb); have n4_ := Aside0.mk (ho); clear HO_10; clear HO_16; clear BK354; clear HB; clear HO_19; have HO_10 := n0_; have HO_16 := n1_; have BK354 := n2_; have HB := n3_; have HO357 := n4_; clear n0_ n1_ n2_ n3_ n4_; clear ho hb hg hat))
                  go_roundg k4
                  case measure => have := HJ3.out; have := HJ15.out; have := HK3.out; have := HK4.out; omega
                  case rel => exact ⟨(y355), (wrap64 (x20_4 + 1)), (by first | rfl | (simp; done) | (simp [*]; done) | exact congrArg (Value.int .i64) (by unfold wrap64; omega)), (by first | exact H' | (subst_vars; exact H')), ⟨by have := HJ3.out; have := HJ15.out; have := HK3.out; have := HK4.out; omega⟩, ⟨by (with_reducible repeat (first | apply Kd.R_alloc | apply Kd.R_drewN | apply Kd.R_drew)); exact Kd.R_mono HO_10.out (fun _ hk => ⟨hk.1.1, hk.2⟩)⟩, ⟨by (with_reducible repeat (first | apply Kd.R_alloc | apply Kd.R_drewN | apply Kd.R_drew)); exact Kd.R_mono HO_16.out (fun _ hk => ⟨hk.1.1, hk.2⟩)⟩, ⟨by (with_reducible repeat (first | apply Kd.R_alloc | apply Kd.R_drewN | apply Kd.R_drew)); exact Kd.R_mono HO357.out (fun _ hk => ⟨hk.1, hk.2.1⟩)⟩, ⟨belx1 HB GE354⟩⟩
def scantlinglaw03_LexOn.Pure : Prop := ∀ (a0 : ByteArray) (a1 : ByteArray) (a2 : Int), a0.size ≤ 140737488351232 → a1.size ≤ 140737488351232 → (Lit.int .u8 a2).wf = true → ∃ k, scantlinglaw03_LexOn.f k a0 a1 a2 = some true
theorem scantlinglaw03_LexOn.walk (P : scantlinglaw03_LexOn.Pure) (a0 : ByteArray) (a1 : ByteArray) (a2 : Int) (w : World) (hL_ : LaidW w) (w0 : a0.size ≤ 140737488351232) (w1 : a1.size ≤ 140737488351232) (w2 : (Lit.int .u8 a2).wf = true) :
    Calls Tryd.prog 5 #[.string a0, .string a1, .int .u8 a2] w fun e w' => e = .returned (.bool true) ∧ Below w.heap.size w w' := by
  obtain ⟨k, h⟩ := P a0 a1 a2 w0 w1 w2
  refine (scantlinglaw03_LexOn.calls k a0 a1 a2 true w hL_ h).mono ?_
  rintro e w' ⟨rfl, hd⟩
  exact ⟨rfl, hd⟩
end Go.Proofs.YtepnbnpgifpfbaaDoor.G
