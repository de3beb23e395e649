/- Lemmas and walks of this claim: GScantlinglaw03LexSpaces. -/
import Derived.Test.YtepnbnpgifpfbaaDoorZKb
import Derived.Test.YtepnbnpgifpfbaaDoorZKf
import Derived.Test.YtepnbnpgifpfbaaDoorZGEAwake03
set_option linter.unusedVariables false
set_option linter.unusedSimpArgs false
namespace Go.Proofs.YtepnbnpgifpfbaaDoor.G
open Go.RowKit Go.Proofs.YtepnbnpgifpfbaaDoorW.PrintWords Go.Proofs.YtepnbnpgifpfbaaDoorW.PrintLast Go.Proofs.YtepnbnpgifpfbaaDoorW.PrintMore
attribute [local go_sem] max2_int min2_int max_two min_two max_three min_three max_four min_four
set_option linter.unusedVariables false
set_option linter.unusedSimpArgs false
attribute [local go_sem high] eqA35
mutual
def scantlinglaw03_LexSpaces.j0 : Nat → ByteArray → Int → Int → Bool → Option (Bool)
  | 0, _, _, _, _ => none
  | k + 1, x0, x1, x2, x25 => if x25 = true then ((scantlinglaw03_awake.f).bind fun t452 => (some t452)) else ((lex_Read.f k x0).bind fun bt453 => (if bt453.2.1 = 0 then (scantlinglaw03_LexSpaces.j1 k x0 x1 x2 bt453.1 bt453.2.1 ((bt453.1.length : Int) == 0)) else (scantlinglaw03_LexSpaces.j1 k x0 x1 x2 bt453.1 bt453.2.1 true)))
def scantlinglaw03_LexSpaces.j1 : Nat → ByteArray → Int → Int → List (S35) → Int → Bool → Option (Bool)
  | 0, _, _, _, _, _, _ => none
  | k + 1, x0, x1, x2, x7, x8, x39 => if x39 = true then (some (x8 != 0)) else (if (x7.length : Int) = 0 then (none) else (if 0 ≤ (Int.tmod (wrap64 (x1)) (x7.length : Int)) then (if (Int.tmod (wrap64 (x1)) (x7.length : Int)) < (x7.length : Int) then (if ((rd_T35 x7 (Int.tmod (wrap64 (x1)) (x7.length : Int))).f1) < 0 then (scantlinglaw03_LexSpaces.j2 k x0 x2 x7 (Int.tmod (wrap64 (x1)) (x7.length : Int)) ((rd_T35 x7 (Int.tmod (wrap64 (x1)) (x7.length : Int))).f1) true) else (scantlinglaw03_LexSpaces.j2 k x0 x2 x7 (Int.tmod (wrap64 (x1)) (x7.length : Int)) ((rd_T35 x7 (Int.tmod (wrap64 (x1)) (x7.length : Int))).f1) (decide (((rd_T35 x7 (Int.tmod (wrap64 (x1)) (x7.length : Int))).f1) > (x0.size : Int))))) else (none)) else (none)))
def scantlinglaw03_LexSpaces.j2 : Nat → ByteArray → Int → List (S35) → Int → Int → Bool → Option (Bool)
  | 0, _, _, _, _, _, _ => none
  | k + 1, x0, x2, x7, x10, x11, x59 => if x59 = true then (some false) else (scantlinglaw03_LexSpaces.l0 k x0 x2 x7 x10 x11 (⟨#[]⟩ : ByteArray) 0)
def scantlinglaw03_LexSpaces.l0 : Nat → ByteArray → Int → List (S35) → Int → Int → ByteArray → Int → Option (Bool)
  | 0, _, _, _, _, _, _, _ => none
  | k + 1, x0, x2, x7, x10, x11, x12, x13 => if x13 < (wrap64 (Int.tmod x2 6)) then (if x12.size + 1 ≤ 9223372036854775807 then (scantlinglaw03_LexSpaces.l0 k x0 x2 x7 x10 x11 (x12 ++ (⟨#[32]⟩ : ByteArray)) (wrap64 (x13 + 1))) else (none)) else (if 0 ≤ x11 then (if x11 ≤ (x0.size : Int) then (if (x0.extract 0 (x11 : Int).toNat).size + x12.size ≤ 9223372036854775807 then (if ((x0.extract 0 (x11 : Int).toNat) ++ x12).size + (x0.extract (x11 : Int).toNat x0.size).size ≤ 9223372036854775807 then ((lex_Read.f k (((x0.extract 0 (x11 : Int).toNat) ++ x12) ++ (x0.extract (x11 : Int).toNat x0.size))).bind fun bt459 => (if bt459.2.1 = 0 then (scantlinglaw03_LexSpaces.j4 k x7 x10 x12 bt459.1 ((bt459.1.length : Int) != (x7.length : Int))) else (scantlinglaw03_LexSpaces.j4 k x7 x10 x12 bt459.1 true))) else (none)) else (none)) else (none)) else (none))
def scantlinglaw03_LexSpaces.j4 : Nat → List (S35) → Int → ByteArray → List (S35) → Bool → Option (Bool)
  | 0, _, _, _, _, _ => none
  | k + 1, x7, x10, x12, x14, x91 => if x91 = true then (some false) else (scantlinglaw03_LexSpaces.l1 k x7 x10 x12 x14 0)
def scantlinglaw03_LexSpaces.l1 : Nat → List (S35) → Int → ByteArray → List (S35) → Int → Option (Bool)
  | 0, _, _, _, _, _ => none
  | k + 1, x7, x10, x12, x14, x17 => if x17 < (x7.length : Int) then (if 0 ≤ x17 then (if x17 ≥ x10 then (if x17 < (x14.length : Int) then (if (!(((rd_T35 x14 x17).f0) == ((rd_T35 x7 x17).f0)) || (!(((rd_T35 x14 x17).f1) == (wrap64 (((rd_T35 x7 x17).f1) + (x12.size : Int)))) || ((!(((rd_T35 x14 x17).f2.f0) == ((rd_T35 x7 x17).f2.f0)) || (!(((rd_T35 x14 x17).f2.f1) == ((rd_T35 x7 x17).f2.f1)) || (!(((rd_T35 x14 x17).f2.f2) == ((rd_T35 x7 x17).f2.f2)) || (!(((rd_T35 x14 x17).f2.f3) == ((rd_T35 x7 x17).f2.f3)))))) || (!((((rd_T35 x14 x17).f3).toList) == (((rd_T35 x7 x17).f3).toList)) || (!(((rd_T35 x14 x17).f4) == ((rd_T35 x7 x17).f4)) || (!(((rd_T35 x14 x17).f5) == ((rd_T35 x7 x17).f5)))))))) = true then (some false) else (scantlinglaw03_LexSpaces.l1 k x7 x10 x12 x14 (wrap64 (x17 + 1)))) else (none)) else (if x17 < (x14.length : Int) then (if (!(((rd_T35 x14 x17).f0) == ((rd_T35 x7 x17).f0)) || (!(((rd_T35 x14 x17).f1) == ((rd_T35 x7 x17).f1)) || ((!(((rd_T35 x14 x17).f2.f0) == ((rd_T35 x7 x17).f2.f0)) || (!(((rd_T35 x14 x17).f2.f1) == ((rd_T35 x7 x17).f2.f1)) || (!(((rd_T35 x14 x17).f2.f2) == ((rd_T35 x7 x17).f2.f2)) || (!(((rd_T35 x14 x17).f2.f3) == ((rd_T35 x7 x17).f2.f3)))))) || (!((((rd_T35 x14 x17).f3).toList) == (((rd_T35 x7 x17).f3).toList)) || (!(((rd_T35 x14 x17).f4) == ((rd_T35 x7 x17).f4)) || (!(((rd_T35 x14 x17).f5) == ((rd_T35 x7 x17).f5)))))))) = true then (some false) else (scantlinglaw03_LexSpaces.l1 k x7 x10 x12 x14 (wrap64 (x17 + 1)))) else (none))) else (none)) else (some true)
end
def scantlinglaw03_LexSpaces.f (k : Nat) (a0 : ByteArray) (a1 : Int) (a2 : Int) : Option (Bool) := (scantlinglaw03_awake.f).bind fun t451 => (if t451 = true then (scantlinglaw03_LexSpaces.j0 k a0 a1 a2 (decide ((a0.size : Int) > 500))) else (scantlinglaw03_LexSpaces.j0 k a0 a1 a2 true))
def scantlinglaw03_LexSpaces.T15 : Bool × List (List Nat × List Nat) := (true, [([], []), ([], []), ([0, 1], [0, 1]), ([], []), ([2, 3], [2, 3]), ([], []), ([], []), ([5, 6], [5, 6]), ([4, 7], [4, 7]), ([8], [8]), ([9], [9]), ([10], [10]), ([10], [10]), ([10], [10]), ([11, 9, 0, 1, 2, 3, 4, 5, 6, 7, 8, 9, 10, 11], [11]), ([12, 14, 0, 1, 2, 3, 4, 5, 6, 7, 8, 9, 10, 11, 12, 14], [12]), ([13, 15, 0, 1, 2, 3, 4, 5, 6, 7, 8, 9, 10, 11, 12, 13, 14, 15], [13])])
def scantlinglaw03_LexSpaces.B15 : List Nat := [0, 0, 3, 0, 15, 0, 0, 96, 255, 511, 1023, 2047, 2047, 2047, 4095, 24575, 65535]
theorem scantlinglaw03_LexSpaces.tab15 : rtab .any (opsOf Tryd.f9 15) = scantlinglaw03_LexSpaces.T15 := by kernel_rfl
theorem scantlinglaw03_LexSpaces.bits15 : waitsOk scantlinglaw03_LexSpaces.T15.2 scantlinglaw03_LexSpaces.B15 = true := by kernel_rfl
set_option maxHeartbeats 8000000 in
set_option maxRecDepth 100000 in
theorem scantlinglaw03_LexSpaces.calls (k : Nat) (a0 : ByteArray) (a1 : Int) (a2 : Int) (r : Bool) (w : World) (hL_ : LaidW w) (h : scantlinglaw03_LexSpaces.f k a0 a1 a2 = some r) :
    Calls Tryd.prog 9 #[.string a0, .int .u8 a1, .int .u8 a2] w fun e w' => e = .returned (.bool r) ∧ Below w.heap.size w w' := by
  have hu35 := Tryd.underlying35
  have HB := Aside0.mk (Below.refl w.heap.size w)
  have H : ((scantlinglaw03_awake.f).bind fun t451 => (if t451 = true then (scantlinglaw03_LexSpaces.j0 k a0 a1 a2 (decide ((a0.size : Int) > 500))) else (scantlinglaw03_LexSpaces.j0 k a0 a1 a2 true))) = some r := h
  clear h
  have HC4 := Aside0.mk H
  clear H
  go_enter Tryd.func9, Tryd.ntmps9
  go_upto_region 1 with (fail)
  go_cut [25] (fun v25 wc => ∃ (kq : Nat) (x25_3 : Bool), v25 = .bool x25_3 ∧ Aside0 (scantlinglaw03_LexSpaces.j0 kq a0 a1 a2 x25_3 = some r) ∧ Aside0 (kq ≤ k) ∧ Aside0 (Below w.heap.size w wc))
  case first =>
    have H := HC4.out
    clear HC4
    replace H := Option.bind_eq_some_iff.mp H
    obtain ⟨t451, A50, H⟩ := H
    replace H : (if t451 = true then (scantlinglaw03_LexSpaces.j0 k a0 a1 a2 (decide ((a0.size : Int) > 500))) else (scantlinglaw03_LexSpaces.j0 k a0 a1 a2 true)) = some r := H
    have A5 := Aside0.mk A50
    clear A50
    by_cases c6 : t451 = true
    · subst c6
      have H1 : (scantlinglaw03_LexSpaces.j0 k a0 a1 a2 (decide ((a0.size : Int) > 500))) = some r := by rw [if_pos rfl] at H; exact H
      clear H
      have H := H1
      clear H1
      have H' := Aside0.mk H
      clear H
      go_wp2_with (first | ((with_reducible refine gate_callee (f := 10) rfl ?_); refine goesL_ (some 19) rfl rfl Tryd.func10 (by kernel_rfl) rfl #[] rfl (by (try simp only [List.map_toArray, List.map_cons, List.map_nil]); first | done | rfl | (simp only [List.length_drop, List.length_take]; rfl)) ?_; (with_reducible refine (scantlinglaw03_awake.calls  true _ ?side1 A5.out).mono ?_); (case side1 => exact (by repeat (first | exact hL_ | apply LaidW.drewN | apply LaidW.drew | refine LaidW.below hL_ (belx HB)))); rintro e w7 ⟨rfl, hb⟩; refine ⟨_, rfl, ?_⟩; have n0_ := Aside0.mk (below_step (belx HB) hb); clear HB; have HB := n0_; clear n0_; (try clear hb); (try clear hb2); (try clear hk); (try clear hi)))
      go_meet
      case rel => exact ⟨_, (decide ((a0.size : Int) > 500)), (by first | rfl | (simp; done) | (simp [*]; done) | exact congrArg (Value.int .i64) (by unfold wrap64; omega)), (by first | exact H' | (subst_vars; exact H')), ⟨by first | omega | exact Nat.le_refl _⟩, ⟨belx HB⟩⟩
    · replace c6 := Bool.eq_false_iff.mpr c6
      subst c6
      have H1 : (scantlinglaw03_LexSpaces.j0 k a0 a1 a2 true) = some r := by rw [if_neg (show ¬ (false = true) by decide)] at H; exact H
      clear H
      have H := H1
      clear H1
      have H' := Aside0.mk H
      clear H
      go_wp2_with (first | ((with_reducible refine gate_callee (f := 10) rfl ?_); refine goesL_ (some 19) rfl rfl Tryd.func10 (by kernel_rfl) rfl #[] rfl (by (try simp only [List.map_toArray, List.map_cons, List.map_nil]); first | done | rfl | (simp only [List.length_drop, List.length_take]; rfl)) ?_; (with_reducible refine (scantlinglaw03_awake.calls  false _ ?side1 A5.out).mono ?_); (case side1 => exact (by repeat (first | exact hL_ | apply LaidW.drewN | apply LaidW.drew | refine LaidW.below hL_ (belx HB)))); rintro e w8 ⟨rfl, hb⟩; refine ⟨_, rfl, ?_⟩; have n0_ := Aside0.mk (below_step (belx HB) hb); clear HB; have HB := n0_; clear n0_; (try clear hb); (try clear hb2); (try clear hk); (try clear hi)))
      go_meet
      case rel => exact ⟨_, (true), (by first | rfl | (simp; done) | (simp [*]; done) | exact congrArg (Value.int .i64) (by unfold wrap64; omega)), (by first | exact H' | (subst_vars; exact H')), ⟨by first | omega | exact Nat.le_refl _⟩, ⟨belx HB⟩⟩
  case rest =>
    clear HC4
    obtain ⟨kq, x25_3, rfl, HA, HJ3, HB⟩ := hcut
    cases kq with
    | zero => exact absurd HA.out (by simp [scantlinglaw03_LexSpaces.j0])
    | succ kj3 =>
      have H := HA.out
      clear HA
      simp only [scantlinglaw03_LexSpaces.j0] at H
      by_cases c9 : x25_3 = true
      case pos =>
        subst c9
        have H1 : ((scantlinglaw03_awake.f).bind fun t452 => (some t452)) = some r := by rw [if_pos rfl] at H; exact H
        clear H
        have H := H1
        clear H1
        replace H := Option.bind_eq_some_iff.mp H
        obtain ⟨t452, A100, H⟩ := H
        replace H : (some t452) = some r := H
        have A10 := Aside0.mk A100
        clear A100
        obtain rfl := Option.some.inj H
        go_wp2_with (first | ((with_reducible refine gate_callee (f := 10) rfl ?_); refine goesL_ (some 26) rfl rfl Tryd.func10 (by kernel_rfl) rfl #[] rfl (by (try simp only [List.map_toArray, List.map_cons, List.map_nil]); first | done | rfl | (simp only [List.length_drop, List.length_take]; rfl)) ?_; (with_reducible refine (scantlinglaw03_awake.calls  t452 _ ?side1 A10.out).mono ?_); (case side1 => exact (by repeat (first | exact hL_ | apply LaidW.drewN | apply LaidW.drew | refine LaidW.below hL_ (belx HB)))); rintro e w11 ⟨rfl, hb⟩; refine ⟨_, rfl, ?_⟩; have n0_ := Aside0.mk (below_step (belx HB) hb); clear HB; have HB := n0_; clear n0_; (try clear hb); (try clear hb2); (try clear hk); (try clear hi)))
        go_ret
        exact ⟨by first | rfl | (simp [errW_none, errW_some] <;> rfl) | (simp [*, errW_none, errW_some] <;> rfl), belx HB⟩
      replace c9 := Bool.eq_false_iff.mpr c9
      subst c9
      have H1 : ((lex_Read.f kj3 a0).bind fun bt453 => (if bt453.2.1 = 0 then (scantlinglaw03_LexSpaces.j1 kj3 a0 a1 a2 bt453.1 bt453.2.1 ((bt453.1.length : Int) == 0)) else (scantlinglaw03_LexSpaces.j1 kj3 a0 a1 a2 bt453.1 bt453.2.1 true))) = some r := by rw [if_neg (show ¬ (false = true) by decide)] at H; exact H
      clear H
      have H := H1
      clear H1
      replace H := Option.bind_eq_some_iff.mp H
      obtain ⟨⟨t453, t454, t455⟩, A120, H⟩ := H
      replace H : (if t454 = 0 then (scantlinglaw03_LexSpaces.j1 kj3 a0 a1 a2 t453 t454 ((t453.length : Int) == 0)) else (scantlinglaw03_LexSpaces.j1 kj3 a0 a1 a2 t453 t454 true)) = some r := H
      have A12 := Aside0.mk A120
      clear A120
      have HC13 := Aside0.mk H
      clear H
      go_upto_region 4 with (first | ((with_reducible refine gate_callee (f := 11) rfl ?_); refine goesL_ (some 29) rfl rfl Tryd.func11 (by kernel_rfl) rfl #[.string a0] rfl (by (try simp only [List.map_toArray, List.map_cons, List.map_nil]); first | done | rfl | (simp only [List.length_drop, List.length_take]; rfl)) ?_; (with_reducible refine (lex_Read.calls kj3 a0 t453 t454 t455 _ ?side1 A12.out).mono ?_); (case side1 => exact (by repeat (first | exact hL_ | apply LaidW.drewN | apply LaidW.drew | refine LaidW.below hL_ (belx HB)))); rintro e w14 ⟨v456, rfl, ho0, hb⟩; refine ⟨_, rfl, ?_⟩; have n0_ := Aside0.mk (Kd.R_lower ho0 (below_size (belx HB))); have n1_ := Aside0.mk (below_step (belx HB) hb); clear HB; have HO457 := n0_; have HB := n1_; clear n0_ n1_; (try clear hb); (try clear hb2); (try clear hk); (try clear hi); (try clear ho0)))
      (try simp only [Act.put, List.setIfInBounds_toArray, List.set_cons_zero, List.set_cons_succ])
      go_cut [39] (fun v39 wc => ∃ (kq : Nat) (x39_12 : Bool), v39 = .bool x39_12 ∧ Aside0 (scantlinglaw03_LexSpaces.j1 kq a0 a1 a2 t453 t454 x39_12 = some r) ∧ Aside0 (kq ≤ kj3) ∧ Aside0 (Kd.R k35 35 wc w.heap.size (fun _ => True) v456 t453) ∧ Aside0 (Below w.heap.size w wc))
      case first =>
        have H := HC13.out
        clear HC13
        by_cases c15 : t454 = 0
        · rw [if_pos c15] at H
          have c15b0 : (t454 == 0) = true := beq_iff_eq.mpr c15
          have c15b1 : (t454 != 0) = false := bne_eq_false_iff_eq.mpr c15
          clear c15
          (first | rw [c15b0] | (simp only [i64_w, i32_w]; rw [c15b0]) | skip)
          have H' := Aside0.mk H
          clear H
          obtain ⟨Ao16, co16, eo16⟩ := Kd.R_slice HO457.out
          subst eo16
          go_wp2
          go_meet
          case rel => exact ⟨_, (((t453.length : Int) == 0)), (by first | rfl | (simp; done) | (simp [*]; done) | exact congrArg (Value.int .i64) (by unfold wrap64; omega)), (by first | exact H' | (subst_vars; exact H')), ⟨by have := HJ3.out; first | omega | exact Nat.le_refl _⟩, ⟨by (with_reducible repeat (first | apply Kd.R_alloc | apply Kd.R_drewN | apply Kd.R_drew)); exact HO457.out⟩, ⟨belx HB⟩⟩
        · rw [if_neg c15] at H
          have c15b0 : (t454 == 0) = false := beq_eq_false_iff_ne.mpr c15
          have c15b1 : (t454 != 0) = true := bne_iff_ne.mpr c15
          (first | rw [c15b0] | (simp only [i64_w, i32_w]; rw [c15b0]) | skip)
          have H' := Aside0.mk H
          clear H
          go_wp2
          go_meet
          case rel => exact ⟨_, (true), (by first | rfl | (simp; done) | (simp [*]; done) | exact congrArg (Value.int .i64) (by unfold wrap64; omega)), (by first | exact H' | (subst_vars; exact H')), ⟨by have := HJ3.out; first | omega | exact Nat.le_refl _⟩, ⟨by (with_reducible repeat (first | apply Kd.R_alloc | apply Kd.R_drewN | apply Kd.R_drew)); exact HO457.out⟩, ⟨belx HB⟩⟩
      case rest =>
        clear HC13
        try clear c9
        obtain ⟨kq, x39_12, rfl, HA, HJ12, HO_7, HB⟩ := hcut
        cases kq with
        | zero => exact absurd HA.out (by simp [scantlinglaw03_LexSpaces.j1])
        | succ kj12 =>
          have H := HA.out
          clear HA
          simp only [scantlinglaw03_LexSpaces.j1] at H
          by_cases c17 : x39_12 = true
          case pos =>
            subst c17
            have H1 : (some (t454 != 0)) = some r := by rw [if_pos rfl] at H; exact H
            clear H
            have H := H1
            clear H1
            obtain rfl := Option.some.inj H
            go_wp2
            go_ret
            exact ⟨by first | rfl | (simp [errW_none, errW_some] <;> rfl) | (simp [*, errW_none, errW_some] <;> rfl), belx HB⟩
          replace c17 := Bool.eq_false_iff.mpr c17
          subst c17
          have H1 : (if (t453.length : Int) = 0 then (none) else (if 0 ≤ (Int.tmod (wrap64 (a1)) (t453.length : Int)) then (if (Int.tmod (wrap64 (a1)) (t453.length : Int)) < (t453.length : Int) then (if ((rd_T35 t453 (Int.tmod (wrap64 (a1)) (t453.length : Int))).f1) < 0 then (scantlinglaw03_LexSpaces.j2 kj12 a0 a2 t453 (Int.tmod (wrap64 (a1)) (t453.length : Int)) ((rd_T35 t453 (Int.tmod (wrap64 (a1)) (t453.length : Int))).f1) true) else (scantlinglaw03_LexSpaces.j2 kj12 a0 a2 t453 (Int.tmod (wrap64 (a1)) (t453.length : Int)) ((rd_T35 t453 (Int.tmod (wrap64 (a1)) (t453.length : Int))).f1) (decide (((rd_T35 t453 (Int.tmod (wrap64 (a1)) (t453.length : Int))).f1) > (a0.size : Int))))) else (none)) else (none))) = some r := by rw [if_neg (show ¬ (false = true) by decide)] at H; exact H
          clear H
          have H := H1
          clear H1
          by_cases c18 : (t453.length : Int) = 0
          case pos => rw [if_pos c18] at H; exact absurd H (by simp)
          rw [if_neg c18] at H
          have c18b0 : ((t453.length : Int) == 0) = false := beq_eq_false_iff_ne.mpr c18
          have c18b1 : ((t453.length : Int) != 0) = true := bne_iff_ne.mpr c18
          have c18b2 : ¬ (t453 = []) := fun h_ => c18 (by rw [h_]; rfl)
          obtain ⟨ji19, hji19⟩ : ∃ j_ : Int, (Int.tmod (wrap64 (a1)) (t453.length : Int)) = j_ := ⟨_, rfl⟩
          replace H : (if 0 ≤ (ji19) then (if (ji19) < (t453.length : Int) then (if ((rd_T35 t453 (ji19)).f1) < 0 then (scantlinglaw03_LexSpaces.j2 kj12 a0 a2 t453 ji19 ((rd_T35 t453 (ji19)).f1) true) else (scantlinglaw03_LexSpaces.j2 kj12 a0 a2 t453 ji19 ((rd_T35 t453 (ji19)).f1) (decide (((rd_T35 t453 (ji19)).f1) > (a0.size : Int))))) else (none)) else (none)) = some r := by first | (rw [hji19] at H; exact H) | (simp only [hji19] at H ⊢; exact H)
          by_cases c20 : 0 ≤ (ji19)
          case neg => rw [if_neg c20] at H; exact absurd H (by simp);
          rw [if_pos c20] at H
          have c20b0 : decide (0 ≤ (ji19)) = true := decide_eq_true c20
          clear c20
          by_cases c21 : (ji19) < (t453.length : Int)
          case neg => rw [if_neg c21] at H; exact absurd H (by simp)
          rw [if_pos c21] at H
          have c21b0 : decide ((ji19) < (t453.length : Int)) = true := decide_eq_true c21
          clear c21
          have HC22 := Aside0.mk H
          clear H
          obtain ⟨Ao23, co23, eo23⟩ := Kd.R_slice HO_7.out
          subst eo23
          have p458 : 0 ≤ ((ji19) : Int) := odt
          have q458 : (ji19) < (t453.length : Int) := odt
          obtain ⟨ad458, e458, hx458_0, hx458_1, hx458_2, hx458_3, hx458_4, hx458_5, hx458_6, hx458_7, hx458_8⟩ := at_T35 (Kd.R_reads' HO_7.out).2.2 (ji19) p458 q458
          cases e458
          replace p458 := eq_true p458
          replace q458 := eq_true q458
          go_upto_region 8 with (fail)
          go_cut [59] (fun v59 wc => ∃ (kq : Nat) (x59_21 : Bool), v59 = .bool x59_21 ∧ Aside0 (scantlinglaw03_LexSpaces.j2 kq a0 a2 t453 ji19 ((rd_T35 t453 (ji19)).f1) x59_21 = some r) ∧ Aside0 (kq ≤ kj12) ∧ Aside0 (Kd.R k35 35 wc w.heap.size (fun _ => True) (.slice (some ad458) t453.length co23) t453) ∧ Aside0 (Below w.heap.size w wc))
          case first =>
            have H := HC22.out
            clear HC22
            by_cases c24 : ((rd_T35 t453 (ji19)).f1) < 0
            · rw [if_pos c24] at H
              have c24b0 : decide (((rd_T35 t453 (ji19)).f1) < 0) = true := decide_eq_true c24
              clear c24
              (first | rw [c24b0] | (simp only [i64_w, i32_w]; rw [c24b0]) | skip)
              have H' := Aside0.mk H
              clear H
              go_wp2
              go_meet
              case rel => exact ⟨_, (true), (by first | rfl | (simp; done) | (simp [*]; done) | exact congrArg (Value.int .i64) (by unfold wrap64; omega)), (by first | exact H' | (subst_vars; exact H')), ⟨by have := HJ3.out; have := HJ12.out; first | omega | exact Nat.le_refl _⟩, ⟨by (with_reducible repeat (first | apply Kd.R_alloc | apply Kd.R_drewN | apply Kd.R_drew)); exact HO_7.out⟩, ⟨belx HB⟩⟩
            · rw [if_neg c24] at H
              have c24b0 : decide (((rd_T35 t453 (ji19)).f1) < 0) = false := decide_eq_false c24
              clear c24
              (first | rw [c24b0] | (simp only [i64_w, i32_w]; rw [c24b0]) | skip)
              have H' := Aside0.mk H
              clear H
              go_wp2
              go_meet
              case rel => exact ⟨_, (decide (((rd_T35 t453 (ji19)).f1) > (a0.size : Int))), (by first | rfl | (simp; done) | (simp only [← hji19] <;> (first | rfl | (simp; done))) | (simp [*]; done)), (by first | exact H' | (subst_vars; exact H')), ⟨by have := HJ3.out; have := HJ12.out; first | omega | exact Nat.le_refl _⟩, ⟨by (with_reducible repeat (first | apply Kd.R_alloc | apply Kd.R_drewN | apply Kd.R_drew)); exact HO_7.out⟩, ⟨belx HB⟩⟩
          case rest =>
            clear HC22
            try clear c9; try clear c17; try clear c18; try clear c18b0; try clear c18b1; try clear c18b2; try clear c20; try clear c20b0; try clear c21; try clear c21b0; try clear hx458_0; try clear hx458_1; try clear hx458_2; try clear hx458_3; try clear hx458_4; try clear hx458_5; try clear hx458_6; try clear hx458_7; try clear hx458_8; try clear p458; try clear q458
            obtain ⟨kq, x59_21, rfl, HA, HJ21, HO_7, HB⟩ := hcut
            cases kq with
            | zero => exact absurd HA.out (by simp [scantlinglaw03_LexSpaces.j2])
            | succ kj21 =>
              have H := HA.out
              clear HA
              simp only [scantlinglaw03_LexSpaces.j2] at H
              by_cases c25 : x59_21 = true
              case pos =>
                subst c25
                have H1 : (some false) = some r := by rw [if_pos rfl] at H; exact H
                clear H
                have H := H1
                clear H1
                obtain rfl := Option.some.inj H
                go_wp2
                go_ret
                exact ⟨by first | rfl | (simp [errW_none, errW_some] <;> rfl) | (simp only [← hji19]; first | rfl | (simp [errW_none, errW_some] <;> rfl)) | (simp [*, errW_none, errW_some] <;> rfl), belx HB⟩
              replace c25 := Bool.eq_false_iff.mpr c25
              subst c25
              have H1 : (scantlinglaw03_LexSpaces.l0 kj21 a0 a2 t453 ji19 ((rd_T35 t453 (ji19)).f1) (⟨#[]⟩ : ByteArray) 0) = some r := by rw [if_neg (show ¬ (false = true) by decide)] at H; exact H
              clear H
              have H := H1
              clear H1
              have H' := Aside0.mk H
              clear H
              go_wp2
              go_loopg [12, 13] kj21 (fun kq v12 v13 w' => ∃ (x12_4 : ByteArray) (x13_4 : Int), v12 = .string x12_4 ∧ v13 = .int .i64 x13_4 ∧ Aside0 (scantlinglaw03_LexSpaces.l0 kq a0 a2 t453 ji19 ((rd_T35 t453 (ji19)).f1) x12_4 x13_4 = some r) ∧ Aside0 (kq ≤ kj21) ∧ Aside0 (Kd.R k35 35 w' w.heap.size (fun _ => True) (.slice (some ad458) t453.length co23) t453) ∧ Aside0 (Below w.heap.size w w'))
              case atStart => exact ⟨((⟨#[]⟩ : ByteArray)), (0), (by first | rfl | (simp; done) | (simp [*]; done) | exact congrArg (Value.int .i64) (by unfold wrap64; omega)), (by first | rfl | (simp; done) | (simp [*]; done) | exact congrArg (Value.int .i64) (by unfold wrap64; omega)), (by first | exact H' | (subst_vars; exact H')), ⟨Nat.le_refl _⟩, ⟨by (with_reducible repeat (first | apply Kd.R_alloc | apply Kd.R_drewN | apply Kd.R_drew)); exact HO_7.out⟩, ⟨belx HB⟩⟩
              case round =>
                clear H'
                try clear c9; try clear c17; try clear c18; try clear c18b0; try clear c18b1; try clear c18b2; try clear c20; try clear c20b0; try clear c21; try clear c21b0; try clear c25; try clear hx458_0; try clear hx458_1; try clear hx458_2; try clear hx458_3; try clear hx458_4; try clear hx458_5; try clear hx458_6; try clear hx458_7; try clear hx458_8; try clear p458; try clear q458
                obtain ⟨x12_4, x13_4, rfl, rfl, HA, HK4, HO_7, HB⟩ := hrel
                cases gk with
                | zero => exact absurd HA.out (by simp [scantlinglaw03_LexSpaces.l0])
                | succ k4 =>
                  have H := HA.out
                  clear HA
                  simp only [scantlinglaw03_LexSpaces.l0] at H
                  by_cases c26 : x13_4 < (wrap64 (Int.tmod a2 6))
                  case pos =>
                    rw [if_pos c26] at H
                    have c26b0 : decide (x13_4 < (wrap64 (Int.tmod a2 6))) = true := decide_eq_true c26
                    clear c26
                    by_cases c27 : x12_4.size + 1 ≤ 9223372036854775807
                    case neg => rw [if_neg c27] at H; exact absurd H (by simp)
                    rw [if_pos c27] at H
                    have c27b0 := eq_true c27
                    have c27b1 : decide (x12_4.size + 1 ≤ 9223372036854775807) = true := decide_eq_true c27
                    try have c27b2 : (9223372036854775807 < x12_4.size + 1) = False := eq_false (Nat.not_lt.2 c27)
                    have H' := Aside0.mk H
                    clear H
                    go_wp2
                    go_roundg k4
                    case measure => have := HJ3.out; have := HJ12.out; have := HJ21.out; have := HK4.out; omega
                    case rel => exact ⟨(x12_4 ++ (⟨#[32]⟩ : ByteArray)), (wrap64 (x13_4 + 1)), (by first | rfl | (simp; done) | (simp [*]; done) | exact congrArg (Value.int .i64) (by unfold wrap64; omega)), (by first | rfl | (simp; done) | (simp [*]; done) | exact congrArg (Value.int .i64) (by unfold wrap64; omega)), (by first | exact H' | (subst_vars; exact H')), ⟨by have := HJ3.out; have := HJ12.out; have := HJ21.out; have := HK4.out; omega⟩, ⟨by (with_reducible repeat (first | apply Kd.R_alloc | apply Kd.R_drewN | apply Kd.R_drew)); exact HO_7.out⟩, ⟨belx HB⟩⟩
                  rw [if_neg c26] at H
                  have c26b0 : decide (x13_4 < (wrap64 (Int.tmod a2 6))) = false := decide_eq_false c26
                  clear c26
                  by_cases c28 : 0 ≤ ((rd_T35 t453 (ji19)).f1)
                  case neg => rw [if_neg c28] at H; exact absurd H (by simp)
                  rw [if_pos c28] at H
                  have c28b0 := eq_true c28
                  have c28b1 : decide (0 ≤ ((rd_T35 t453 (ji19)).f1)) = true := decide_eq_true c28
                  clear c28
                  by_cases c29 : ((rd_T35 t453 (ji19)).f1) ≤ (a0.size : Int)
                  case neg => rw [if_neg c29] at H; exact absurd H (by simp)
                  rw [if_pos c29] at H
                  have c29b0 := eq_true c29
                  have c29b1 : decide (((rd_T35 t453 (ji19)).f1) ≤ (a0.size : Int)) = true := decide_eq_true c29
                  clear c29
                  by_cases c30 : (a0.extract 0 (((rd_T35 t453 (ji19)).f1) : Int).toNat).size + x12_4.size ≤ 9223372036854775807
                  case neg => rw [if_neg c30] at H; exact absurd H (by simp)
                  rw [if_pos c30] at H
                  have c30b0 := eq_true c30
                  have c30b1 : decide ((a0.extract 0 (((rd_T35 t453 (ji19)).f1) : Int).toNat).size + x12_4.size ≤ 9223372036854775807) = true := decide_eq_true c30
                  try have c30b2 : (9223372036854775807 < (a0.extract 0 (((rd_T35 t453 (ji19)).f1) : Int).toNat).size + x12_4.size) = False := eq_false (Nat.not_lt.2 c30)
                  have c30n : (rd_T35 t453 (ji19)).f1.toNat + x12_4.size ≤ 9223372036854775807 := by have h_ := c30; have e0a_ : 0 ≤ ((rd_T35 t453 (ji19)).f1) := odt; have e0b_ : ((rd_T35 t453 (ji19)).f1) ≤ (a0.size : Int) := odt; simp only [ByteArray.size_append, ByteArray.size_extract] at h_; omega
                  have c30n2 : (9223372036854775807 < (rd_T35 t453 (ji19)).f1.toNat + x12_4.size) = False := eq_false (Nat.not_lt.2 c30n)
                  have c31b0 := eq_true (odt : 0 ≤ ((rd_T35 t453 (ji19)).f1))
                  have c32b0 := eq_true (odt : ((rd_T35 t453 (ji19)).f1) ≤ (a0.size : Int))
                  by_cases c33 : ((a0.extract 0 (((rd_T35 t453 (ji19)).f1) : Int).toNat) ++ x12_4).size + (a0.extract (((rd_T35 t453 (ji19)).f1) : Int).toNat a0.size).size ≤ 9223372036854775807
                  case neg => rw [if_neg c33] at H; exact absurd H (by simp)
                  rw [if_pos c33] at H
                  have c33b0 := eq_true c33
                  have c33b1 : decide (((a0.extract 0 (((rd_T35 t453 (ji19)).f1) : Int).toNat) ++ x12_4).size + (a0.extract (((rd_T35 t453 (ji19)).f1) : Int).toNat a0.size).size ≤ 9223372036854775807) = true := decide_eq_true c33
                  try have c33b2 : (9223372036854775807 < ((a0.extract 0 (((rd_T35 t453 (ji19)).f1) : Int).toNat) ++ x12_4).size + (a0.extract (((rd_T35 t453 (ji19)).f1) : Int).toNat a0.size).size) = False := eq_false (Nat.not_lt.2 c33)
                  have c33n : (rd_T35 t453 (ji19)).f1.toNat + x12_4.size + (a0.size - (rd_T35 t453 (ji19)).f1.toNat) ≤ 9223372036854775807 := by have h_ := c33; have e0a_ : 0 ≤ ((rd_T35 t453 (ji19)).f1) := odt; have e0b_ : ((rd_T35 t453 (ji19)).f1) ≤ (a0.size : Int) := odt; have e1a_ : 0 ≤ ((rd_T35 t453 (ji19)).f1) := odt; have e1b_ : ((rd_T35 t453 (ji19)).f1) ≤ (a0.size : Int) := odt; simp only [ByteArray.size_append, ByteArray.size_extract] at h_; omega
                  have c33n2 : (9223372036854775807 < (rd_T35 t453 (ji19)).f1.toNat + x12_4.size + (a0.size - (rd_T35 t453 (ji19)).f1.toNat)) = False := eq_false (Nat.not_lt.2 c33n)
                  replace H := Option.bind_eq_some_iff.mp H
                  obtain ⟨⟨t459, t460, t461⟩, A340, H⟩ := H
                  replace H : (if t460 = 0 then (scantlinglaw03_LexSpaces.j4 k4 t453 ji19 x12_4 t459 ((t459.length : Int) != (t453.length : Int))) else (scantlinglaw03_LexSpaces.j4 k4 t453 ji19 x12_4 t459 true)) = some r := H
                  have A34 := Aside0.mk A340
                  clear A340
                  have HC35 := Aside0.mk H
                  clear H
                  try go_wp2
                  have n0_ := Aside0.mk (Kd.R_drew HO_7.out)
                  have n1_ := Aside0.mk (below_drew1 HB.out)
                  clear HO_7
                  clear HB
                  have HO_7 := n0_
                  have HB := n1_
                  clear n0_ n1_
                  refine start_ (n := 17) (S := fun w' => True) (ds := []) #[false, false, false, false, false, false, false, false, false, false, false, false, false, false, false, false, false] (by kernel_rfl) rfl rfl trivial (fun hHeld => ?_); refine with_tabW scantlinglaw03_LexSpaces.tab15 scantlinglaw03_LexSpaces.bits15 (fun HT_ HW_ => ?_)
                  generalize wr.drew = w36 at HO_7 HB hHeld ⊢
                  refine pure_ (i := 0) (N := some 70) (v := ?_) (a' := ?_) #[true, false, false, false, false, false, false, false, false, false, false, false, false, false, false, false, false] rfl rfl (any_of HT_.out (by kernel_rfl)) (fun _ _ _ h => h) (Or.inl ⟨by rfl, ?_⟩) ?_ ?_
                  rotate_left
                  · intro w'
                    go_simp
                    with_reducible rfl
                  rotate_left
                  · simp only [Act.put, List.setIfInBounds_toArray, List.set_cons_zero, List.set_cons_succ, i64_w, i32_w]
                    rfl
                  refine pure_ (i := 1) (N := some 71) (v := ?_) (a' := ?_) #[true, true, false, false, false, false, false, false, false, false, false, false, false, false, false, false, false] rfl rfl (any_of HT_.out (by kernel_rfl)) (fun _ _ _ h => h) (Or.inl ⟨by rfl, ?_⟩) ?_ ?_
                  rotate_left
                  · intro w'
                    go_simp
                    with_reducible rfl
                  rotate_left
                  · simp only [Act.put, List.setIfInBounds_toArray, List.set_cons_zero, List.set_cons_succ, i64_w, i32_w]
                    rfl
                  refine pure_ (i := 2) (N := some 72) (v := ?_) (a' := ?_) #[true, true, true, false, false, false, false, false, false, false, false, false, false, false, false, false, false] rfl rfl (any_of HT_.out (by kernel_rfl)) (fun _ _ _ h => h) (Or.inl ⟨by rfl, ?_⟩) ?_ ?_
                  rotate_left
                  · intro w'
                    go_simp
                    with_reducible rfl
                  rotate_left
                  · simp only [Act.put, List.setIfInBounds_toArray, List.set_cons_zero, List.set_cons_succ, i64_w, i32_w]
                    rfl
                  refine pure_ (i := 3) (N := some 73) (v := ?_) (a' := ?_) #[true, true, true, true, false, false, false, false, false, false, false, false, false, false, false, false, false] rfl rfl (any_of HT_.out (by kernel_rfl)) (fun _ _ _ h => h) (Or.inl ⟨by rfl, ?_⟩) ?_ ?_
                  rotate_left
                  · intro w'
                    go_simp
                    with_reducible rfl
                  rotate_left
                  · simp only [Act.put, List.setIfInBounds_toArray, List.set_cons_zero, List.set_cons_succ, i64_w, i32_w]
                    rfl
                  refine pure_ (i := 4) (N := some 74) (v := ?_) (a' := ?_) #[true, true, true, true, true, false, false, false, false, false, false, false, false, false, false, false, false] rfl rfl (any_of HT_.out (by kernel_rfl)) (fun _ _ _ h => h) (Or.inl ⟨by rfl, ?_⟩) ?_ ?_
                  rotate_left
                  · intro w'
                    go_simp
                    with_reducible rfl
                  rotate_left
                  · simp only [Act.put, List.setIfInBounds_toArray, List.set_cons_zero, List.set_cons_succ, i64_w, i32_w]
                    rfl
                  refine pure_ (i := 5) (N := some 75) (v := ?_) (a' := ?_) #[true, true, true, true, true, true, false, false, false, false, false, false, false, false, false, false, false] rfl rfl (any_of HT_.out (by kernel_rfl)) (fun _ _ _ h => h) (Or.inl ⟨by rfl, ?_⟩) ?_ ?_
                  rotate_left
                  · intro w'
                    go_simp
                    with_reducible rfl
                  rotate_left
                  · simp only [Act.put, List.setIfInBounds_toArray, List.set_cons_zero, List.set_cons_succ, i64_w, i32_w]
                    rfl
                  refine pure_ (i := 6) (N := some 76) (v := ?_) (a' := ?_) #[true, true, true, true, true, true, true, false, false, false, false, false, false, false, false, false, false] rfl rfl (any_of HT_.out (by kernel_rfl)) (fun _ _ _ h => h) (Or.inl ⟨by rfl, ?_⟩) ?_ ?_
                  rotate_left
                  · intro w'
                    go_simp
                    with_reducible rfl
                  rotate_left
                  · simp only [Act.put, List.setIfInBounds_toArray, List.set_cons_zero, List.set_cons_succ, i64_w, i32_w]
                    rfl
                  refine pure_ (i := 7) (N := some 77) (v := ?_) (a' := ?_) #[true, true, true, true, true, true, true, true, false, false, false, false, false, false, false, false, false] rfl rfl (any_of HT_.out (by kernel_rfl)) (fun _ _ _ h => h) (Or.inl ⟨by rfl, ?_⟩) ?_ ?_
                  rotate_left
                  · intro w'
                    go_simp
                    with_reducible rfl
                  rotate_left
                  · simp only [Act.put, List.setIfInBounds_toArray, List.set_cons_zero, List.set_cons_succ, i64_w, i32_w]
                    rfl
                  refine pure_ (i := 8) (N := some 78) (v := ?_) (a' := ?_) #[true, true, true, true, true, true, true, true, true, false, false, false, false, false, false, false, false] rfl rfl (any_of HT_.out (by kernel_rfl)) (fun _ _ _ h => h) (Or.inl ⟨by rfl, ?_⟩) ?_ ?_
                  rotate_left
                  · intro w'
                    go_simp
                    with_reducible rfl
                  rotate_left
                  · simp only [Act.put, List.setIfInBounds_toArray, List.set_cons_zero, List.set_cons_succ, i64_w, i32_w]
                    rfl
                  refine one_ (i := 9) (N := some 79) #[true, true, true, true, true, true, true, true, true, true, false, false, false, false, false, false, false] rfl rfl (one_of HT_.out (by kernel_rfl)) (by decide) (fun K hK => ?_)
                  refine goes_ Tryd.func11 (by kernel_rfl) rfl #[.string (((a0.extract 0 (((rd_T35 t453 (ji19)).f1) : Int).toNat) ++ x12_4) ++ (a0.extract (((rd_T35 t453 (ji19)).f1) : Int).toNat a0.size))] (by rfl) rfl rfl (by (try simp only [List.map_toArray, List.map_cons, List.map_nil]); first | done | (simp only [hji19]; rfl) | rfl | (simp only [List.length_drop, List.length_take]; rfl)) ?_
                  with_reducible refine (lex_Read.calls k4 (((a0.extract 0 (((rd_T35 t453 (ji19)).f1) : Int).toNat) ++ x12_4) ++ (a0.extract (((rd_T35 t453 (ji19)).f1) : Int).toNat a0.size)) t459 t460 t461 _ ?side1 A34.out).mono ?_
                  (case side1 => exact (by repeat (first | exact hL_ | apply LaidW.drewN | apply LaidW.drew | refine LaidW.below hL_ (belx HB))))
                  rintro e w37 ⟨v462, rfl, ho0, hb⟩
                  refine ⟨_, rfl, ?_⟩
                  have n0_ := Aside0.mk (Kd.R_elder' (by (with_reducible repeat (first | apply Kd.R_alloc | apply Kd.R_drewN | apply Kd.R_drew)); exact HO_7.out) (Kd.R_base ho0) hb)
                  have n1_ := Aside0.mk (Kd.R_lower (Kd.R_new' ho0 (Kd.R_lt (by (with_reducible repeat (first | apply Kd.R_alloc | apply Kd.R_drewN | apply Kd.R_drew)); exact HO_7.out))) (below_size (belx HB)))
                  have n2_ := Aside0.mk (below_step (belx HB) hb)
                  clear HO_7
                  clear HB
                  have HO_7 := n0_
                  have HO463 := n1_
                  have HB := n2_
                  clear n0_ n1_ n2_
                  (try clear hb)
                  (try clear hb2)
                  (try clear hk)
                  (try clear hi)
                  (try clear ho0)
                  refine hK.out _ _ trivial (fun hHeld => ?_)
                  clear hK K
                  refine norm_ (a' := ?_) ?_ ?_
                  rotate_left
                  · show Act.put _ (some 79) _ = _
                    simp only [Act.put, List.setIfInBounds_toArray, List.set_cons_zero, List.set_cons_succ, i64_w, i32_w]
                    rfl
                  refine pure_ (i := 10) (N := some 69) (v := ?_) (a' := ?_) #[true, true, true, true, true, true, true, true, true, true, true, false, false, false, false, false, false] rfl rfl (any_of HT_.out (by kernel_rfl)) (fun _ _ _ h => h) (Or.inl ⟨by rfl, ?_⟩) ?_ ?_
                  rotate_left
                  · intro w'
                    go_simp
                    with_reducible rfl
                  rotate_left
                  · simp only [Act.put, List.setIfInBounds_toArray, List.set_cons_zero, List.set_cons_succ, i64_w, i32_w]
                    rfl
                  refine pure_ (i := 11) (N := some 80) (v := ?_) (a' := ?_) #[true, true, true, true, true, true, true, true, true, true, true, true, false, false, false, false, false] rfl rfl (any_of HT_.out (by kernel_rfl)) (fun _ _ _ h => h) (Or.inl ⟨by rfl, ?_⟩) ?_ ?_
                  rotate_left
                  · intro w'
                    go_simp
                    with_reducible rfl
                  rotate_left
                  · simp only [Act.put, List.setIfInBounds_toArray, List.set_cons_zero, List.set_cons_succ, i64_w, i32_w]
                    rfl
                  refine pure_ (i := 12) (N := some 81) (v := ?_) (a' := ?_) #[true, true, true, true, true, true, true, true, true, true, true, true, true, false, false, false, false] rfl rfl (any_of HT_.out (by kernel_rfl)) (fun _ _ _ h => h) (Or.inl ⟨by rfl, ?_⟩) ?_ ?_
                  rotate_left
                  · intro w'
                    go_simp
                    with_reducible rfl
                  rotate_left
                  · simp only [Act.put, List.setIfInBounds_toArray, List.set_cons_zero, List.set_cons_succ, i64_w, i32_w]
                    rfl
                  refine pure_ (i := 13) (N := some 82) (v := ?_) (a' := ?_) #[true, true, true, true, true, true, true, true, true, true, true, true, true, true, false, false, false] rfl rfl (any_of HT_.out (by kernel_rfl)) (fun _ _ _ h => h) (Or.inl ⟨by rfl, ?_⟩) ?_ ?_
                  rotate_left
                  · intro w'
                    go_simp
                    with_reducible rfl
                  rotate_left
                  · simp only [Act.put, List.setIfInBounds_toArray, List.set_cons_zero, List.set_cons_succ, i64_w, i32_w]
                    rfl
                  refine pure_ (i := 14) (N := some 14) (v := ?_) (a' := ?_) #[true, true, true, true, true, true, true, true, true, true, true, true, true, true, true, false, false] rfl rfl (any_of HT_.out (by kernel_rfl)) (fun _ _ _ h => h) (Or.inl ⟨by rfl, ?_⟩) ?_ ?_
                  rotate_left
                  · intro w'
                    go_simp
                    with_reducible rfl
                  rotate_left
                  · simp only [Act.put, List.setIfInBounds_toArray, List.set_cons_zero, List.set_cons_succ, i64_w, i32_w]
                    rfl
                  refine pure_ (i := 15) (N := some 15) (v := ?_) (a' := ?_) #[true, true, true, true, true, true, true, true, true, true, true, true, true, true, true, true, false] rfl rfl (any_of HT_.out (by kernel_rfl)) (fun _ _ _ h => h) (Or.inl ⟨by rfl, ?_⟩) ?_ ?_
                  rotate_left
                  · intro w'
                    go_simp
                    with_reducible rfl
                  rotate_left
                  · simp only [Act.put, List.setIfInBounds_toArray, List.set_cons_zero, List.set_cons_succ, i64_w, i32_w]
                    rfl
                  refine pure_ (i := 16) (N := some 16) (v := ?_) (a' := ?_) #[true, true, true, true, true, true, true, true, true, true, true, true, true, true, true, true, true] rfl rfl (any_of HT_.out (by kernel_rfl)) (fun _ _ _ h => h) (Or.inl ⟨by rfl, ?_⟩) ?_ ?_
                  rotate_left
                  · intro w'
                    go_simp
                    with_reducible rfl
                  rotate_left
                  · simp only [Act.put, List.setIfInBounds_toArray, List.set_cons_zero, List.set_cons_succ, i64_w, i32_w]
                    rfl
                  refine done_ (done_of HT_.out (by kernel_rfl)) ?_
                  go_upto_region 16 with (fail)
                  go_cut [91] (fun v91 wc => ∃ (kq : Nat) (x91_34 : Bool), v91 = .bool x91_34 ∧ Aside0 (scantlinglaw03_LexSpaces.j4 kq t453 ji19 x12_4 t459 x91_34 = some r) ∧ Aside0 (kq ≤ k4) ∧ Aside0 (Kd.R k35 35 wc w.heap.size (fun k_ => some k_ ≠ (v462 : Value).ownBlock) (.slice (some ad458) t453.length co23) t453) ∧ Aside0 (Kd.R k35 35 wc w.heap.size (fun k_ => some k_ ≠ ((.slice (some ad458) t453.length co23) : Value).ownBlock) v462 t459) ∧ Aside0 (Below w.heap.size w wc))
                  case first =>
                    have H := HC35.out
                    clear HC35
                    by_cases c38 : t460 = 0
                    · rw [if_pos c38] at H
                      have c38b0 : (t460 == 0) = true := beq_iff_eq.mpr c38
                      have c38b1 : (t460 != 0) = false := bne_eq_false_iff_eq.mpr c38
                      clear c38
                      (first | rw [c38b0] | (simp only [i64_w, i32_w]; rw [c38b0]) | skip)
                      have H' := Aside0.mk H
                      clear H
                      obtain ⟨Ao39, co39, eo39⟩ := Kd.R_slice HO463.out
                      subst eo39
                      go_wp2
                      go_meet
                      case rel => exact ⟨_, (((t459.length : Int) != (t453.length : Int))), (by first | rfl | (simp; done) | (simp [*]; done) | exact congrArg (Value.int .i64) (by unfold wrap64; omega)), (by first | exact H' | (subst_vars; exact H')), ⟨by have := HJ3.out; have := HJ12.out; have := HJ21.out; have := HK4.out; first | omega | exact Nat.le_refl _⟩, ⟨by (with_reducible repeat (first | apply Kd.R_alloc | apply Kd.R_drewN | apply Kd.R_drew)); exact Kd.R_mono HO_7.out (fun _ hk => hk.2)⟩, ⟨by (with_reducible repeat (first | apply Kd.R_alloc | apply Kd.R_drewN | apply Kd.R_drew)); exact Kd.R_mono HO463.out (fun _ hk => hk.2)⟩, ⟨belx HB⟩⟩
                    · rw [if_neg c38] at H
                      have c38b0 : (t460 == 0) = false := beq_eq_false_iff_ne.mpr c38
                      have c38b1 : (t460 != 0) = true := bne_iff_ne.mpr c38
                      (first | rw [c38b0] | (simp only [i64_w, i32_w]; rw [c38b0]) | skip)
                      have H' := Aside0.mk H
                      clear H
                      go_wp2
                      go_meet
                      case rel => exact ⟨_, (true), (by first | rfl | (simp; done) | (simp [*]; done) | exact congrArg (Value.int .i64) (by unfold wrap64; omega)), (by first | exact H' | (subst_vars; exact H')), ⟨by have := HJ3.out; have := HJ12.out; have := HJ21.out; have := HK4.out; first | omega | exact Nat.le_refl _⟩, ⟨by (with_reducible repeat (first | apply Kd.R_alloc | apply Kd.R_drewN | apply Kd.R_drew)); exact Kd.R_mono HO_7.out (fun _ hk => hk.2)⟩, ⟨by (with_reducible repeat (first | apply Kd.R_alloc | apply Kd.R_drewN | apply Kd.R_drew)); exact Kd.R_mono HO463.out (fun _ hk => hk.2)⟩, ⟨belx HB⟩⟩
                  case rest =>
                    clear HC35
                    try clear c9; try clear c17; try clear c18; try clear c18b0; try clear c18b1; try clear c18b2; try clear c20; try clear c20b0; try clear c21; try clear c21b0; try clear c25; try clear c26; try clear c26b0; try clear c28; try clear c28b0; try clear c28b1; try clear c29; try clear c29b0; try clear c29b1; try clear c30; try clear c30b0; try clear c30b1; try clear c30b2; try clear c31b0; try clear c32b0; try clear c33; try clear c33b0; try clear c33b1; try clear c33b2; try clear hx458_0; try clear hx458_1; try clear hx458_2; try clear hx458_3; try clear hx458_4; try clear hx458_5; try clear hx458_6; try clear hx458_7; try clear hx458_8; try clear p458; try clear q458
                    obtain ⟨kq, x91_34, rfl, HA, HJ34, HO_7, HO_14, HB⟩ := hcut
                    cases kq with
                    | zero => exact absurd HA.out (by simp [scantlinglaw03_LexSpaces.j4])
                    | succ kj34 =>
                      have H := HA.out
                      clear HA
                      simp only [scantlinglaw03_LexSpaces.j4] at H
                      by_cases c40 : x91_34 = true
                      case pos =>
                        subst c40
                        have H1 : (some false) = some r := by rw [if_pos rfl] at H; exact H
                        clear H
                        have H := H1
                        clear H1
                        obtain rfl := Option.some.inj H
                        go_wp2
                        go_ret
                        exact ⟨by first | rfl | (simp [errW_none, errW_some] <;> rfl) | (simp only [← hji19]; first | rfl | (simp [errW_none, errW_some] <;> rfl)) | (simp [*, errW_none, errW_some] <;> rfl), belx HB⟩
                      replace c40 := Bool.eq_false_iff.mpr c40
                      subst c40
                      have H1 : (scantlinglaw03_LexSpaces.l1 kj34 t453 ji19 x12_4 t459 0) = some r := by rw [if_neg (show ¬ (false = true) by decide)] at H; exact H
                      clear H
                      have H := H1
                      clear H1
                      have H' := Aside0.mk H
                      clear H
                      go_wp2
                      go_loopg [17] kj34 (fun kq v17 w' => ∃ (x17_6 : Int), v17 = .int .i64 x17_6 ∧ Aside0 (scantlinglaw03_LexSpaces.l1 kq t453 ji19 x12_4 t459 x17_6 = some r) ∧ Aside0 (kq ≤ kj34) ∧ Aside0 (Kd.R k35 35 w' w.heap.size (fun k_ => some k_ ≠ (v462 : Value).ownBlock) (.slice (some ad458) t453.length co23) t453) ∧ Aside0 (Kd.R k35 35 w' w.heap.size (fun k_ => some k_ ≠ ((.slice (some ad458) t453.length co23) : Value).ownBlock) v462 t459) ∧ Aside0 (Below w.heap.size w w'))
                      case atStart => exact ⟨(0), (by first | rfl | (simp; done) | (simp [*]; done) | exact congrArg (Value.int .i64) (by unfold wrap64; omega)), (by first | exact H' | (subst_vars; exact H')), ⟨Nat.le_refl _⟩, ⟨by (with_reducible repeat (first | apply Kd.R_alloc | apply Kd.R_drewN | apply Kd.R_drew)); exact HO_7.out⟩, ⟨by (with_reducible repeat (first | apply Kd.R_alloc | apply Kd.R_drewN | apply Kd.R_drew)); exact HO_14.out⟩, ⟨belx HB⟩⟩
                      case round =>
                        clear H'
                        try clear c9; try clear c17; try clear c18; try clear c18b0; try clear c18b1; try clear c18b2; try clear c20; try clear c20b0; try clear c21; try clear c21b0; try clear c25; try clear c26; try clear c26b0; try clear c28; try clear c28b0; try clear c28b1; try clear c29; try clear c29b0; try clear c29b1; try clear c30; try clear c30b0; try clear c30b1; try clear c30b2; try clear c31b0; try clear c32b0; try clear c33; try clear c33b0; try clear c33b1; try clear c33b2; try clear c40; try clear hx458_0; try clear hx458_1; try clear hx458_2; try clear hx458_3; try clear hx458_4; try clear hx458_5; try clear hx458_6; try clear hx458_7; try clear hx458_8; try clear p458; try clear q458
                        obtain ⟨x17_6, rfl, HA, HK6, HO_7, HO_14, HB⟩ := hrel
                        cases gk with
                        | zero => exact absurd HA.out (by simp [scantlinglaw03_LexSpaces.l1])
                        | succ k6 =>
                          have H := HA.out
                          clear HA
                          simp only [scantlinglaw03_LexSpaces.l1] at H
                          by_cases c41 : x17_6 < (t453.length : Int)
                          case neg =>
                            rw [if_neg c41] at H
                            have c41b0 : decide (x17_6 < (t453.length : Int)) = false := decide_eq_false c41
                            clear c41
                            obtain rfl := Option.some.inj H
                            go_wp2
                            go_ret
                            exact ⟨by first | rfl | (simp [errW_none, errW_some] <;> rfl) | (simp only [← hji19]; first | rfl | (simp [errW_none, errW_some] <;> rfl)) | (simp [*, errW_none, errW_some] <;> rfl), belx HB⟩
                          rw [if_pos c41] at H
                          have c41b0 : decide (x17_6 < (t453.length : Int)) = true := decide_eq_true c41
                          clear c41
                          by_cases c42 : 0 ≤ x17_6
                          case neg => rw [if_neg c42] at H; exact absurd H (by simp)
                          rw [if_pos c42] at H
                          have c42b0 : decide (0 ≤ x17_6) = true := decide_eq_true c42
                          clear c42
                          by_cases c43 : x17_6 ≥ ji19
                          case neg =>
                            rw [if_neg c43] at H
                            have c43b0 : decide (ji19 ≤ x17_6) = false := decide_eq_false c43
                            clear c43
                            by_cases c60 : x17_6 < (t459.length : Int)
                            case neg => rw [if_neg c60] at H; exact absurd H (by simp)
                            rw [if_pos c60] at H
                            have c60b0 : decide (x17_6 < (t459.length : Int)) = true := decide_eq_true c60
                            clear c60
                            by_cases c61 : (!(((rd_T35 t459 x17_6).f0) == ((rd_T35 t453 x17_6).f0)) || (!(((rd_T35 t459 x17_6).f1) == ((rd_T35 t453 x17_6).f1)) || ((!(((rd_T35 t459 x17_6).f2.f0) == ((rd_T35 t453 x17_6).f2.f0)) || (!(((rd_T35 t459 x17_6).f2.f1) == ((rd_T35 t453 x17_6).f2.f1)) || (!(((rd_T35 t459 x17_6).f2.f2) == ((rd_T35 t453 x17_6).f2.f2)) || (!(((rd_T35 t459 x17_6).f2.f3) == ((rd_T35 t453 x17_6).f2.f3)))))) || (!((((rd_T35 t459 x17_6).f3).toList) == (((rd_T35 t453 x17_6).f3).toList)) || (!(((rd_T35 t459 x17_6).f4) == ((rd_T35 t453 x17_6).f4)) || (!(((rd_T35 t459 x17_6).f5) == ((rd_T35 t453 x17_6).f5)))))))) = true
                            case pos =>
                              rw [if_pos c61] at H
                              have c61b0 : (!(((rd_T35 t459 x17_6).f0) == ((rd_T35 t453 x17_6).f0)) || (!(((rd_T35 t459 x17_6).f1) == ((rd_T35 t453 x17_6).f1)) || ((!(((rd_T35 t459 x17_6).f2.f0) == ((rd_T35 t453 x17_6).f2.f0)) || (!(((rd_T35 t459 x17_6).f2.f1) == ((rd_T35 t453 x17_6).f2.f1)) || (!(((rd_T35 t459 x17_6).f2.f2) == ((rd_T35 t453 x17_6).f2.f2)) || (!(((rd_T35 t459 x17_6).f2.f3) == ((rd_T35 t453 x17_6).f2.f3)))))) || (!((((rd_T35 t459 x17_6).f3).toList) == (((rd_T35 t453 x17_6).f3).toList)) || (!(((rd_T35 t459 x17_6).f4) == ((rd_T35 t453 x17_6).f4)) || (!(((rd_T35 t459 x17_6).f5) == ((rd_T35 t453 x17_6).f5)))))))) = true := c61
                              clear c61
                              obtain rfl := Option.some.inj H
                              have p464 : 0 ≤ (x17_6 : Int) := odt
                              have q464 : x17_6 < (t453.length : Int) := odt
                              obtain ⟨ad464, e464, hx464_0, hx464_1, hx464_2, hx464_3, hx464_4, hx464_5, hx464_6, hx464_7, hx464_8⟩ := at_T35 (Kd.R_reads' HO_7.out).2.2 x17_6 p464 q464
                              obtain rfl : ad458 = ad464 := (by injection e464)
                              replace p464 := eq_true p464
                              replace q464 := eq_true q464
                              try go_wp2_with (first | ((with_reducible refine gate_dst (N := 18) rfl ?_); (try (refine gate_guard (by rfl) ?_; dsimp only)); refine box_event ?hg (N := 18) ?hd (cs := #[.int .i64 0, .int .i64 0, .int .u64 0, .int .u64 0, .int .u64 0, .int .u64 0, .string (⟨#[]⟩ : ByteArray), .int .i64 0, .int .i64 0]) (t := 35) ?hr ?_; (case hd => rfl); (case hg => rfl); (case hr => first | (go_simp; done) | (go_simp; rfl)); intro gb465 hg w62 hbox hb; have n0_ := Aside0.mk (Kd.R_below (Kd.R_elderB (by (with_reducible repeat (first | apply Kd.R_alloc | apply Kd.R_drewN | apply Kd.R_drew)); exact HO_7.out) gb465 (Nat.le_of_eq hg.symm)) hb); have n1_ := Aside0.mk (Kd.R_below (Kd.R_elderB (by (with_reducible repeat (first | apply Kd.R_alloc | apply Kd.R_drewN | apply Kd.R_drew)); exact HO_14.out) gb465 (Nat.le_of_eq hg.symm)) hb); have n2_ := Aside0.mk (below_step (belx HB) hb); have n3_ := Aside0.mk (hbox); have n4_ := Aside0.mk ((by rw [hg]; exact (below_size (belx HB)) : w.heap.size ≤ gb465)); have n5_ := Aside0.mk ((by rw [hg]; exact (below_size (belx HB)) : w.heap.size ≤ gb465)); clear HO_7; clear HO_14; clear HB; have HO_7 := n0_; have HO_14 := n1_; have HB := n2_; have BK465 := n3_; have GW465 := n4_; have GE465 := n5_; clear n0_ n1_ n2_ n3_ n4_ n5_; clear hb hbox hg; obtain ⟨hcz63_0, hcz63_1, hcz63_2, hcz63_3, hcz63_4, hcz63_5, hcz63_6, hcz63_7, hcz63_8, hfz63_0, hfz63_1, hfz63_2, hfz63_3, hfz63_4, hfz63_5, hfz63_6, hfz63_7, hfz63_8⟩ := cells9 BK465.out) | ((with_reducible refine gate_store (t := 35) (p := 18) rfl ?_); refine store_event (t := 35) (p := 18) (v := ?vo_w64) (w1 := (((((((((w62.setCell ⟨gb465, 0, none⟩ (.int .i64 ((rd_T35 t453 x17_6).f0))).setCell ⟨gb465, 1, none⟩ (.int .i64 ((rd_T35 t453 x17_6).f1))).setCell ⟨gb465, 2, none⟩ (.int .u64 ((rd_T35 t453 x17_6).f2.f0))).setCell ⟨gb465, 3, none⟩ (.int .u64 ((rd_T35 t453 x17_6).f2.f1))).setCell ⟨gb465, 4, none⟩ (.int .u64 ((rd_T35 t453 x17_6).f2.f2))).setCell ⟨gb465, 5, none⟩ (.int .u64 ((rd_T35 t453 x17_6).f2.f3))).setCell ⟨gb465, 6, none⟩ (.string ((rd_T35 t453 x17_6).f3))).setCell ⟨gb465, 7, none⟩ (.int .i64 ((rd_T35 t453 x17_6).f4))).setCell ⟨gb465, 8, none⟩ (.int .i64 ((rd_T35 t453 x17_6).f5)))) ?hg ?ho ?hn ?hr ?_; (case ho => rfl); (case hg => rfl); (case hn => rfl); (case hr => first | (go_simp; done) | (go_simp; rfl)); intro w64 hw; have n0_ : Aside0 (Kd.R k35 35 w64 w.heap.size (fun k_ => some k_ ≠ (v462 : Value).ownBlock ∧ k_ ≠ gb465) (.slice (some ad458) t453.length co23) t453) := ⟨(by rw [hw]; exact (by (with_reducible repeat (first | apply Kd.R_alloc | apply Kd.R_drewN | apply Kd.R_drew)); exact Kd.R_mono (Kd.R_far (p := ⟨gb465, 8, none⟩) (Kd.R_far (p := ⟨gb465, 7, none⟩) (Kd.R_far (p := ⟨gb465, 6, none⟩) (Kd.R_far (p := ⟨gb465, 5, none⟩) (Kd.R_far (p := ⟨gb465, 4, none⟩) (Kd.R_far (p := ⟨gb465, 3, none⟩) (Kd.R_far (p := ⟨gb465, 2, none⟩) (Kd.R_far (p := ⟨gb465, 1, none⟩) (Kd.R_far (p := ⟨gb465, 0, none⟩) (Kd.R_mono HO_7.out (fun k_ hk => (⟨hk, hk.2⟩ : _ ∧ k_ ≠ gb465))) (fun _ hk => hk.2) (.int .i64 ((rd_T35 t453 x17_6).f0))) (fun _ hk => hk.2) (.int .i64 ((rd_T35 t453 x17_6).f1))) (fun _ hk => hk.2) (.int .u64 ((rd_T35 t453 x17_6).f2.f0))) (fun _ hk => hk.2) (.int .u64 ((rd_T35 t453 x17_6).f2.f1))) (fun _ hk => hk.2) (.int .u64 ((rd_T35 t453 x17_6).f2.f2))) (fun _ hk => hk.2) (.int .u64 ((rd_T35 t453 x17_6).f2.f3))) (fun _ hk => hk.2) (.string ((rd_T35 t453 x17_6).f3))) (fun _ hk => hk.2) (.int .i64 ((rd_T35 t453 x17_6).f4))) (fun _ hk => hk.2) (.int .i64 ((rd_T35 t453 x17_6).f5))) (fun _ hk => ⟨hk.1.1, hk.1.2⟩)))⟩; have n1_ : Aside0 (Kd.R k35 35 w64 w.heap.size (fun k_ => some k_ ≠ (.slice (some ad458) t453.length co23 : Value).ownBlock ∧ k_ ≠ gb465) v462 t459) := ⟨(by rw [hw]; exact (by (with_reducible repeat (first | apply Kd.R_alloc | apply Kd.R_drewN | apply Kd.R_drew)); exact Kd.R_mono (Kd.R_far (p := ⟨gb465, 8, none⟩) (Kd.R_far (p := ⟨gb465, 7, none⟩) (Kd.R_far (p := ⟨gb465, 6, none⟩) (Kd.R_far (p := ⟨gb465, 5, none⟩) (Kd.R_far (p := ⟨gb465, 4, none⟩) (Kd.R_far (p := ⟨gb465, 3, none⟩) (Kd.R_far (p := ⟨gb465, 2, none⟩) (Kd.R_far (p := ⟨gb465, 1, none⟩) (Kd.R_far (p := ⟨gb465, 0, none⟩) (Kd.R_mono HO_14.out (fun k_ hk => (⟨hk, hk.2⟩ : _ ∧ k_ ≠ gb465))) (fun _ hk => hk.2) (.int .i64 ((rd_T35 t453 x17_6).f0))) (fun _ hk => hk.2) (.int .i64 ((rd_T35 t453 x17_6).f1))) (fun _ hk => hk.2) (.int .u64 ((rd_T35 t453 x17_6).f2.f0))) (fun _ hk => hk.2) (.int .u64 ((rd_T35 t453 x17_6).f2.f1))) (fun _ hk => hk.2) (.int .u64 ((rd_T35 t453 x17_6).f2.f2))) (fun _ hk => hk.2) (.int .u64 ((rd_T35 t453 x17_6).f2.f3))) (fun _ hk => hk.2) (.string ((rd_T35 t453 x17_6).f3))) (fun _ hk => hk.2) (.int .i64 ((rd_T35 t453 x17_6).f4))) (fun _ hk => hk.2) (.int .i64 ((rd_T35 t453 x17_6).f5))) (fun _ hk => ⟨hk.1.1, hk.1.2⟩)))⟩; have n2_ : Aside0 (w64.heap[gb465]? = some (.cells #[.int .i64 ((rd_T35 t453 x17_6).f0), .int .i64 ((rd_T35 t453 x17_6).f1), .int .u64 ((rd_T35 t453 x17_6).f2.f0), .int .u64 ((rd_T35 t453 x17_6).f2.f1), .int .u64 ((rd_T35 t453 x17_6).f2.f2), .int .u64 ((rd_T35 t453 x17_6).f2.f3), .string ((rd_T35 t453 x17_6).f3), .int .i64 ((rd_T35 t453 x17_6).f4), .int .i64 ((rd_T35 t453 x17_6).f5)] 35 (0, 0))) := ⟨(by rw [hw]; exact (by (with_reducible repeat (first | refine blk_drewN ?_ _ | refine blk_drew ?_ | refine blk_alloc ?_ _)); exact put9h BK465.out))⟩; have n3_ : Aside0 (Below w.heap.size w w64) := ⟨(by rw [hw]; exact (belx1 HB GE465))⟩; clear hw; clear HO_7; clear HO_14; clear BK465; clear HB; have HO_7 := n0_; have HO_14 := n1_; have BK465 := n2_; have HB := n3_; clear n0_ n1_ n2_ n3_))
                              have n0_ := Aside0.mk (Kd.R_drew HO_7.out)
                              have n1_ := Aside0.mk (Kd.R_drew HO_14.out)
                              have n2_ := Aside0.mk (blk_drew BK465.out)
                              have n3_ := Aside0.mk (below_drew1 HB.out)
                              clear HO_7
                              clear HO_14
                              clear BK465
                              clear HB
                              have HO_7 := n0_
                              have HO_14 := n1_
                              have BK465 := n2_
                              have HB := n3_
                              clear n0_ n1_ n2_ n3_
                              obtain ⟨Ao66, co66, eo66⟩ := Kd.R_slice HO_14.out
                              (first | subst eo66 | (injection eo66 with f1_ f2_ f3_; have f4_ := f1_.symm; have f5_ := f3_.symm; clear f1_ f2_ f3_; subst f4_; subst f5_))
                              have p467 : 0 ≤ (x17_6 : Int) := odt
                              have q467 : x17_6 < (t459.length : Int) := odt
                              obtain ⟨ad467, e467, hx467_0, hx467_1, hx467_2, hx467_3, hx467_4, hx467_5, hx467_6, hx467_7, hx467_8⟩ := at_T35 (Kd.R_reads' HO_14.out).2.2 x17_6 p467 q467
                              cases e467
                              replace p467 := eq_true p467
                              replace q467 := eq_true q467
                              refine start_ (n := 6) (S := fun w' => w'.cell? ⟨gb465, 0, none⟩ = some (.int .i64 ((rd_T35 t453 x17_6).f0)) ∧ w'.cell? ⟨gb465, 1, none⟩ = some (.int .i64 ((rd_T35 t453 x17_6).f1)) ∧ w'.cell? ⟨gb465, 2, none⟩ = some (.int .u64 ((rd_T35 t453 x17_6).f2.f0)) ∧ w'.cell? ⟨gb465, 3, none⟩ = some (.int .u64 ((rd_T35 t453 x17_6).f2.f1)) ∧ w'.cell? ⟨gb465, 4, none⟩ = some (.int .u64 ((rd_T35 t453 x17_6).f2.f2)) ∧ w'.cell? ⟨gb465, 5, none⟩ = some (.int .u64 ((rd_T35 t453 x17_6).f2.f3)) ∧ w'.cell? ⟨gb465, 6, none⟩ = some (.string ((rd_T35 t453 x17_6).f3)) ∧ w'.cell? ⟨gb465, 7, none⟩ = some (.int .i64 ((rd_T35 t453 x17_6).f4)) ∧ w'.cell? ⟨gb465, 8, none⟩ = some (.int .i64 ((rd_T35 t453 x17_6).f5)) ∧ w'.cell? (ad467.add ((x17_6).toNat * 9)) = some (.int .i64 ((rd_T35 t459 x17_6).f0)) ∧ w'.cell? ⟨(ad467.add ((x17_6).toNat * 9)).block, (ad467.add ((x17_6).toNat * 9)).off + 1, none⟩ = some (.int .i64 ((rd_T35 t459 x17_6).f1)) ∧ w'.cell? ⟨(ad467.add ((x17_6).toNat * 9)).block, (ad467.add ((x17_6).toNat * 9)).off + 2, none⟩ = some (.int .u64 ((rd_T35 t459 x17_6).f2.f0)) ∧ w'.cell? ⟨(ad467.add ((x17_6).toNat * 9)).block, (ad467.add ((x17_6).toNat * 9)).off + 3, none⟩ = some (.int .u64 ((rd_T35 t459 x17_6).f2.f1)) ∧ w'.cell? ⟨(ad467.add ((x17_6).toNat * 9)).block, (ad467.add ((x17_6).toNat * 9)).off + 4, none⟩ = some (.int .u64 ((rd_T35 t459 x17_6).f2.f2)) ∧ w'.cell? ⟨(ad467.add ((x17_6).toNat * 9)).block, (ad467.add ((x17_6).toNat * 9)).off + 5, none⟩ = some (.int .u64 ((rd_T35 t459 x17_6).f2.f3)) ∧ w'.cell? ⟨(ad467.add ((x17_6).toNat * 9)).block, (ad467.add ((x17_6).toNat * 9)).off + 6, none⟩ = some (.string ((rd_T35 t459 x17_6).f3)) ∧ w'.cell? ⟨(ad467.add ((x17_6).toNat * 9)).block, (ad467.add ((x17_6).toNat * 9)).off + 7, none⟩ = some (.int .i64 ((rd_T35 t459 x17_6).f4)) ∧ w'.cell? ⟨(ad467.add ((x17_6).toNat * 9)).block, (ad467.add ((x17_6).toNat * 9)).off + 8, none⟩ = some (.int .i64 ((rd_T35 t459 x17_6).f5))) (ds := []) #[false, false, false, false, false, false] (by kernel_rfl) rfl rfl ⟨(blk_cell BK465.out 0).trans rfl, (blk_cell BK465.out 1).trans rfl, (blk_cell BK465.out 2).trans rfl, (blk_cell BK465.out 3).trans rfl, (blk_cell BK465.out 4).trans rfl, (blk_cell BK465.out 5).trans rfl, (blk_cell BK465.out 6).trans rfl, (blk_cell BK465.out 7).trans rfl, (blk_cell BK465.out 8).trans rfl, hx467_0, hx467_1, hx467_2, hx467_3, hx467_4, hx467_5, hx467_6, hx467_7, hx467_8⟩ (fun hHeld => ?_)
                              generalize w64.drew = w65 at HO_7 HO_14 BK465 HB hx467_0 hx467_1 hx467_2 hx467_3 hx467_4 hx467_5 hx467_6 hx467_7 hx467_8 hHeld ⊢
                              refine pure_ (i := 0) (N := some 111) (v := ?_) (a' := ?_) #[true, false, false, false, false, false] rfl rfl (by kernel_rfl) (fun _ _ _ h => h) (Or.inl ⟨by rfl, ?_⟩) ?_ ?_
                              rotate_left
                              · intro w'
                                go_simp
                                with_reducible rfl
                              rotate_left
                              · simp only [Act.put, List.setIfInBounds_toArray, List.set_cons_zero, List.set_cons_succ, i64_w, i32_w]
                                rfl
                              refine pure_ (i := 1) (N := some 112) (v := ?_) (a' := ?_) #[true, true, false, false, false, false] rfl rfl (by kernel_rfl) (fun _ _ _ h => h) (Or.inl ⟨by rfl, ?_⟩) ?_ ?_
                              rotate_left
                              · intro w'
                                go_simp
                                with_reducible rfl
                              rotate_left
                              · simp only [Act.put, List.setIfInBounds_toArray, List.set_cons_zero, List.set_cons_succ, i64_w, i32_w]
                                rfl
                              refine pure_ (i := 2) (N := some 113) (v := ?_) (a' := ?_) #[true, true, true, false, false, false] rfl rfl (by kernel_rfl) (fun _ _ _ h => h) (Or.inl ⟨by rfl, ?_⟩) ?_ ?_
                              rotate_left
                              · intro w'
                                go_simp
                                with_reducible rfl
                              rotate_left
                              · simp only [Act.put, List.setIfInBounds_toArray, List.set_cons_zero, List.set_cons_succ, i64_w, i32_w]
                                rfl
                              refine take_ (i := 3) (N := some 114) (v := ?_) (a' := ?_) #[true, true, true, true, false, false] rfl rfl (by kernel_rfl) (fun _ _ _ h => h) (Or.inl ⟨by rfl, ?_⟩) hHeld ?_ ?_
                              rotate_left
                              · rintro w' ⟨s0, s1, s2, s3, s4, s5, s6, s7, s8, s9, s10, s11, s12, s13, s14, s15, s16, s17⟩
                                go_simp
                                with_reducible rfl
                              rotate_left
                              · simp only [Act.put, List.setIfInBounds_toArray, List.set_cons_zero, List.set_cons_succ, i64_w, i32_w]
                                rfl
                              refine take_ (i := 4) (N := some 115) (v := ?_) (a' := ?_) #[true, true, true, true, true, false] rfl rfl (by kernel_rfl) (fun _ _ _ h => h) (Or.inl ⟨by rfl, ?_⟩) hHeld ?_ ?_
                              rotate_left
                              · rintro w' ⟨s0, s1, s2, s3, s4, s5, s6, s7, s8, s9, s10, s11, s12, s13, s14, s15, s16, s17⟩
                                go_simp
                                with_reducible rfl
                              rotate_left
                              · simp only [Act.put, List.setIfInBounds_toArray, List.set_cons_zero, List.set_cons_succ, i64_w, i32_w]
                                rfl
                              refine pure_ (i := 5) (N := some 116) (v := ?_) (a' := ?_) #[true, true, true, true, true, true] rfl rfl (by kernel_rfl) (fun _ _ _ h => h) (Or.inl ⟨by rfl, ?_⟩) ?_ ?_
                              rotate_left
                              · intro w'
                                go_simp
                                with_reducible rfl
                              rotate_left
                              · simp only [Act.put, List.setIfInBounds_toArray, List.set_cons_zero, List.set_cons_succ, i64_w, i32_w]
                                rfl
                              refine done_ (by kernel_rfl) ?_
                              try go_wp2
                              go_ret
                              exact ⟨by first | rfl | (simp [errW_none, errW_some] <;> rfl) | (simp only [← hji19]; first | rfl | (simp [errW_none, errW_some] <;> rfl)) | (simp [*, errW_none, errW_some] <;> rfl), belx1 HB GE465⟩
                            rw [if_neg c61] at H
                            have c61b0 : (!(((rd_T35 t459 x17_6).f0) == ((rd_T35 t453 x17_6).f0)) || (!(((rd_T35 t459 x17_6).f1) == ((rd_T35 t453 x17_6).f1)) || ((!(((rd_T35 t459 x17_6).f2.f0) == ((rd_T35 t453 x17_6).f2.f0)) || (!(((rd_T35 t459 x17_6).f2.f1) == ((rd_T35 t453 x17_6).f2.f1)) || (!(((rd_T35 t459 x17_6).f2.f2) == ((rd_T35 t453 x17_6).f2.f2)) || (!(((rd_T35 t459 x17_6).f2.f3) == ((rd_T35 t453 x17_6).f2.f3)))))) || (!((((rd_T35 t459 x17_6).f3).toList) == (((rd_T35 t453 x17_6).f3).toList)) || (!(((rd_T35 t459 x17_6).f4) == ((rd_T35 t453 x17_6).f4)) || (!(((rd_T35 t459 x17_6).f5) == ((rd_T35 t453 x17_6).f5)))))))) = false := by simpa using c61
                            clear c61
                            have H' := Aside0.mk H
                            clear H
                            have p464 : 0 ≤ (x17_6 : Int) := odt
                            have q464 : x17_6 < (t453.length : Int) := odt
                            obtain ⟨ad464, e464, hx464_0, hx464_1, hx464_2, hx464_3, hx464_4, hx464_5, hx464_6, hx464_7, hx464_8⟩ := at_T35 (Kd.R_reads' HO_7.out).2.2 x17_6 p464 q464
                            obtain rfl : ad458 = ad464 := (by injection e464)
                            replace p464 := eq_true p464
                            replace q464 := eq_true q464
                            try go_wp2_with (first | ((with_reducible refine gate_dst (N := 18) rfl ?_); (try (refine gate_guard (by rfl) ?_; dsimp only)); refine box_event ?hg (N := 18) ?hd (cs := #[.int .i64 0, .int .i64 0, .int .u64 0, .int .u64 0, .int .u64 0, .int .u64 0, .string (⟨#[]⟩ : ByteArray), .int .i64 0, .int .i64 0]) (t := 35) ?hr ?_; (case hd => rfl); (case hg => rfl); (case hr => first | (go_simp; done) | (go_simp; rfl)); intro gb465 hg w67 hbox hb; have n0_ := Aside0.mk (Kd.R_below (Kd.R_elderB (by (with_reducible repeat (first | apply Kd.R_alloc | apply Kd.R_drewN | apply Kd.R_drew)); exact HO_7.out) gb465 (Nat.le_of_eq hg.symm)) hb); have n1_ := Aside0.mk (Kd.R_below (Kd.R_elderB (by (with_reducible repeat (first | apply Kd.R_alloc | apply Kd.R_drewN | apply Kd.R_drew)); exact HO_14.out) gb465 (Nat.le_of_eq hg.symm)) hb); have n2_ := Aside0.mk (below_step (belx HB) hb); have n3_ := Aside0.mk (hbox); have n4_ := Aside0.mk ((by rw [hg]; exact (below_size (belx HB)) : w.heap.size ≤ gb465)); have n5_ := Aside0.mk ((by rw [hg]; exact (below_size (belx HB)) : w.heap.size ≤ gb465)); clear HO_7; clear HO_14; clear HB; have HO_7 := n0_; have HO_14 := n1_; have HB := n2_; have BK465 := n3_; have GW465 := n4_; have GE465 := n5_; clear n0_ n1_ n2_ n3_ n4_ n5_; clear hb hbox hg; obtain ⟨hcz68_0, hcz68_1, hcz68_2, hcz68_3, hcz68_4, hcz68_5, hcz68_6, hcz68_7, hcz68_8, hfz68_0, hfz68_1, hfz68_2, hfz68_3, hfz68_4, hfz68_5, hfz68_6, hfz68_7, hfz68_8⟩ := cells9 BK465.out) | ((with_reducible refine gate_store (t := 35) (p := 18) rfl ?_); refine store_event (t := 35) (p := 18) (v := ?vo_w69) (w1 := (((((((((w67.setCell ⟨gb465, 0, none⟩ (.int .i64 ((rd_T35 t453 x17_6).f0))).setCell ⟨gb465, 1, none⟩ (.int .i64 ((rd_T35 t453 x17_6).f1))).setCell ⟨gb465, 2, none⟩ (.int .u64 ((rd_T35 t453 x17_6).f2.f0))).setCell ⟨gb465, 3, none⟩ (.int .u64 ((rd_T35 t453 x17_6).f2.f1))).setCell ⟨gb465, 4, none⟩ (.int .u64 ((rd_T35 t453 x17_6).f2.f2))).setCell ⟨gb465, 5, none⟩ (.int .u64 ((rd_T35 t453 x17_6).f2.f3))).setCell ⟨gb465, 6, none⟩ (.string ((rd_T35 t453 x17_6).f3))).setCell ⟨gb465, 7, none⟩ (.int .i64 ((rd_T35 t453 x17_6).f4))).setCell ⟨gb465, 8, none⟩ (.int .i64 ((rd_T35 t453 x17_6).f5)))) ?hg ?ho ?hn ?hr ?_; (case ho => rfl); (case hg => rfl); (case hn => rfl); (case hr => first | (go_simp; done) | (go_simp; rfl)); intro w69 hw; have n0_ : Aside0 (Kd.R k35 35 w69 w.heap.size (fun k_ => some k_ ≠ (v462 : Value).ownBlock ∧ k_ ≠ gb465) (.slice (some ad458) t453.length co23) t453) := ⟨(by rw [hw]; exact (by (with_reducible repeat (first | apply Kd.R_alloc | apply Kd.R_drewN | apply Kd.R_drew)); exact Kd.R_mono (Kd.R_far (p := ⟨gb465, 8, none⟩) (Kd.R_far (p := ⟨gb465, 7, none⟩) (Kd.R_far (p := ⟨gb465, 6, none⟩) (Kd.R_far (p := ⟨gb465, 5, none⟩) (Kd.R_far (p := ⟨gb465, 4, none⟩) (Kd.R_far (p := ⟨gb465, 3, none⟩) (Kd.R_far (p := ⟨gb465, 2, none⟩) (Kd.R_far (p := ⟨gb465, 1, none⟩) (Kd.R_far (p := ⟨gb465, 0, none⟩) (Kd.R_mono HO_7.out (fun k_ hk => (⟨hk, hk.2⟩ : _ ∧ k_ ≠ gb465))) (fun _ hk => hk.2) (.int .i64 ((rd_T35 t453 x17_6).f0))) (fun _ hk => hk.2) (.int .i64 ((rd_T35 t453 x17_6).f1))) (fun _ hk => hk.2) (.int .u64 ((rd_T35 t453 x17_6).f2.f0))) (fun _ hk => hk.2) (.int .u64 ((rd_T35 t453 x17_6).f2.f1))) (fun _ hk => hk.2) (.int .u64 ((rd_T35 t453 x17_6).f2.f2))) (fun _ hk => hk.2) (.int .u64 ((rd_T35 t453 x17_6).f2.f3))) (fun _ hk => hk.2) (.string ((rd_T35 t453 x17_6).f3))) (fun _ hk => hk.2) (.int .i64 ((rd_T35 t453 x17_6).f4))) (fun _ hk => hk.2) (.int .i64 ((rd_T35 t453 x17_6).f5))) (fun _ hk => ⟨hk.1.1, hk.1.2⟩)))⟩; have n1_ : Aside0 (Kd.R k35 35 w69 w.heap.size (fun k_ => some k_ ≠ (.slice (some ad458) t453.length co23 : Value).ownBlock ∧ k_ ≠ gb465) v462 t459) := ⟨(by rw [hw]; exact (by (with_reducible repeat (first | apply Kd.R_alloc | apply Kd.R_drewN | apply Kd.R_drew)); exact Kd.R_mono (Kd.R_far (p := ⟨gb465, 8, none⟩) (Kd.R_far (p := ⟨gb465, 7, none⟩) (Kd.R_far (p := ⟨gb465, 6, none⟩) (Kd.R_far (p := ⟨gb465, 5, none⟩) (Kd.R_far (p := ⟨gb465, 4, none⟩) (Kd.R_far (p := ⟨gb465, 3, none⟩) (Kd.R_far (p := ⟨gb465, 2, none⟩) (Kd.R_far (p := ⟨gb465, 1, none⟩) (Kd.R_far (p := ⟨gb465, 0, none⟩) (Kd.R_mono HO_14.out (fun k_ hk => (⟨hk, hk.2⟩ : _ ∧ k_ ≠ gb465))) (fun _ hk => hk.2) (.int .i64 ((rd_T35 t453 x17_6).f0))) (fun _ hk => hk.2) (.int .i64 ((rd_T35 t453 x17_6).f1))) (fun _ hk => hk.2) (.int .u64 ((rd_T35 t453 x17_6).f2.f0))) (fun _ hk => hk.2) (.int .u64 ((rd_T35 t453 x17_6).f2.f1))) (fun _ hk => hk.2) (.int .u64 ((rd_T35 t453 x17_6).f2.f2))) (fun _ hk => hk.2) (.int .u64 ((rd_T35 t453 x17_6).f2.f3))) (fun _ hk => hk.2) (.string ((rd_T35 t453 x17_6).f3))) (fun _ hk => hk.2) (.int .i64 ((rd_T35 t453 x17_6).f4))) (fun _ hk => hk.2) (.int .i64 ((rd_T35 t453 x17_6).f5))) (fun _ hk => ⟨hk.1.1, hk.1.2⟩)))⟩; have n2_ : Aside0 (w69.heap[gb465]? = some (.cells #[.int .i64 ((rd_T35 t453 x17_6).f0), .int .i64 ((rd_T35 t453 x17_6).f1), .int .u64 ((rd_T35 t453 x17_6).f2.f0), .int .u64 ((rd_T35 t453 x17_6).f2.f1), .int .u64 ((rd_T35 t453 x17_6).f2.f2), .int .u64 ((rd_T35 t453 x17_6).f2.f3), .string ((rd_T35 t453 x17_6).f3), .int .i64 ((rd_T35 t453 x17_6).f4), .int .i64 ((rd_T35 t453 x17_6).f5)] 35 (0, 0))) := ⟨(by rw [hw]; exact (by (with_reducible repeat (first | refine blk_drewN ?_ _ | refine blk_drew ?_ | refine blk_alloc ?_ _)); exact put9h BK465.out))⟩; have n3_ : Aside0 (Below w.heap.size w w69) := ⟨(by rw [hw]; exact (belx1 HB GE465))⟩; clear hw; clear HO_7; clear HO_14; clear BK465; clear HB; have HO_7 := n0_; have HO_14 := n1_; have BK465 := n2_; have HB := n3_; clear n0_ n1_ n2_ n3_))
                            have n0_ := Aside0.mk (Kd.R_drew HO_7.out)
                            have n1_ := Aside0.mk (Kd.R_drew HO_14.out)
                            have n2_ := Aside0.mk (blk_drew BK465.out)
                            have n3_ := Aside0.mk (below_drew1 HB.out)
                            clear HO_7
                            clear HO_14
                            clear BK465
                            clear HB
                            have HO_7 := n0_
                            have HO_14 := n1_
                            have BK465 := n2_
                            have HB := n3_
                            clear n0_ n1_ n2_ n3_
                            obtain ⟨Ao71, co71, eo71⟩ := Kd.R_slice HO_14.out
                            (first | subst eo71 | (injection eo71 with f1_ f2_ f3_; have f4_ := f1_.symm; have f5_ := f3_.symm; clear f1_ f2_ f3_; subst f4_; subst f5_))
                            have p467 : 0 ≤ (x17_6 : Int) := odt
                            have q467 : x17_6 < (t459.length : Int) := odt
                            obtain ⟨ad467, e467, hx467_0, hx467_1, hx467_2, hx467_3, hx467_4, hx467_5, hx467_6, hx467_7, hx467_8⟩ := at_T35 (Kd.R_reads' HO_14.out).2.2 x17_6 p467 q467
                            cases e467
                            replace p467 := eq_true p467
                            replace q467 := eq_true q467
                            refine start_ (n := 6) (S := fun w' => w'.cell? ⟨gb465, 0, none⟩ = some (.int .i64 ((rd_T35 t453 x17_6).f0)) ∧ w'.cell? ⟨gb465, 1, none⟩ = some (.int .i64 ((rd_T35 t453 x17_6).f1)) ∧ w'.cell? ⟨gb465, 2, none⟩ = some (.int .u64 ((rd_T35 t453 x17_6).f2.f0)) ∧ w'.cell? ⟨gb465, 3, none⟩ = some (.int .u64 ((rd_T35 t453 x17_6).f2.f1)) ∧ w'.cell? ⟨gb465, 4, none⟩ = some (.int .u64 ((rd_T35 t453 x17_6).f2.f2)) ∧ w'.cell? ⟨gb465, 5, none⟩ = some (.int .u64 ((rd_T35 t453 x17_6).f2.f3)) ∧ w'.cell? ⟨gb465, 6, none⟩ = some (.string ((rd_T35 t453 x17_6).f3)) ∧ w'.cell? ⟨gb465, 7, none⟩ = some (.int .i64 ((rd_T35 t453 x17_6).f4)) ∧ w'.cell? ⟨gb465, 8, none⟩ = some (.int .i64 ((rd_T35 t453 x17_6).f5)) ∧ w'.cell? (ad467.add ((x17_6).toNat * 9)) = some (.int .i64 ((rd_T35 t459 x17_6).f0)) ∧ w'.cell? ⟨(ad467.add ((x17_6).toNat * 9)).block, (ad467.add ((x17_6).toNat * 9)).off + 1, none⟩ = some (.int .i64 ((rd_T35 t459 x17_6).f1)) ∧ w'.cell? ⟨(ad467.add ((x17_6).toNat * 9)).block, (ad467.add ((x17_6).toNat * 9)).off + 2, none⟩ = some (.int .u64 ((rd_T35 t459 x17_6).f2.f0)) ∧ w'.cell? ⟨(ad467.add ((x17_6).toNat * 9)).block, (ad467.add ((x17_6).toNat * 9)).off + 3, none⟩ = some (.int .u64 ((rd_T35 t459 x17_6).f2.f1)) ∧ w'.cell? ⟨(ad467.add ((x17_6).toNat * 9)).block, (ad467.add ((x17_6).toNat * 9)).off + 4, none⟩ = some (.int .u64 ((rd_T35 t459 x17_6).f2.f2)) ∧ w'.cell? ⟨(ad467.add ((x17_6).toNat * 9)).block, (ad467.add ((x17_6).toNat * 9)).off + 5, none⟩ = some (.int .u64 ((rd_T35 t459 x17_6).f2.f3)) ∧ w'.cell? ⟨(ad467.add ((x17_6).toNat * 9)).block, (ad467.add ((x17_6).toNat * 9)).off + 6, none⟩ = some (.string ((rd_T35 t459 x17_6).f3)) ∧ w'.cell? ⟨(ad467.add ((x17_6).toNat * 9)).block, (ad467.add ((x17_6).toNat * 9)).off + 7, none⟩ = some (.int .i64 ((rd_T35 t459 x17_6).f4)) ∧ w'.cell? ⟨(ad467.add ((x17_6).toNat * 9)).block, (ad467.add ((x17_6).toNat * 9)).off + 8, none⟩ = some (.int .i64 ((rd_T35 t459 x17_6).f5))) (ds := []) #[false, false, false, false, false, false] (by kernel_rfl) rfl rfl ⟨(blk_cell BK465.out 0).trans rfl, (blk_cell BK465.out 1).trans rfl, (blk_cell BK465.out 2).trans rfl, (blk_cell BK465.out 3).trans rfl, (blk_cell BK465.out 4).trans rfl, (blk_cell BK465.out 5).trans rfl, (blk_cell BK465.out 6).trans rfl, (blk_cell BK465.out 7).trans rfl, (blk_cell BK465.out 8).trans rfl, hx467_0, hx467_1, hx467_2, hx467_3, hx467_4, hx467_5, hx467_6, hx467_7, hx467_8⟩ (fun hHeld => ?_)
                            generalize w69.drew = w70 at HO_7 HO_14 BK465 HB hx467_0 hx467_1 hx467_2 hx467_3 hx467_4 hx467_5 hx467_6 hx467_7 hx467_8 hHeld ⊢
                            refine pure_ (i := 0) (N := some 111) (v := ?_) (a' := ?_) #[true, false, false, false, false, false] rfl rfl (by kernel_rfl) (fun _ _ _ h => h) (Or.inl ⟨by rfl, ?_⟩) ?_ ?_
                            rotate_left
                            · intro w'
                              go_simp
                              with_reducible rfl
                            rotate_left
                            · simp only [Act.put, List.setIfInBounds_toArray, List.set_cons_zero, List.set_cons_succ, i64_w, i32_w]
                              rfl
                            refine pure_ (i := 1) (N := some 112) (v := ?_) (a' := ?_) #[true, true, false, false, false, false] rfl rfl (by kernel_rfl) (fun _ _ _ h => h) (Or.inl ⟨by rfl, ?_⟩) ?_ ?_
                            rotate_left
                            · intro w'
                              go_simp
                              with_reducible rfl
                            rotate_left
                            · simp only [Act.put, List.setIfInBounds_toArray, List.set_cons_zero, List.set_cons_succ, i64_w, i32_w]
                              rfl
                            refine pure_ (i := 2) (N := some 113) (v := ?_) (a' := ?_) #[true, true, true, false, false, false] rfl rfl (by kernel_rfl) (fun _ _ _ h => h) (Or.inl ⟨by rfl, ?_⟩) ?_ ?_
                            rotate_left
                            · intro w'
                              go_simp
                              with_reducible rfl
                            rotate_left
                            · simp only [Act.put, List.setIfInBounds_toArray, List.set_cons_zero, List.set_cons_succ, i64_w, i32_w]
                              rfl
                            refine take_ (i := 3) (N := some 114) (v := ?_) (a' := ?_) #[true, true, true, true, false, false] rfl rfl (by kernel_rfl) (fun _ _ _ h => h) (Or.inl ⟨by rfl, ?_⟩) hHeld ?_ ?_
                            rotate_left
                            · rintro w' ⟨s0, s1, s2, s3, s4, s5, s6, s7, s8, s9, s10, s11, s12, s13, s14, s15, s16, s17⟩
                              go_simp
                              with_reducible rfl
                            rotate_left
                            · simp only [Act.put, List.setIfInBounds_toArray, List.set_cons_zero, List.set_cons_succ, i64_w, i32_w]
                              rfl
                            refine take_ (i := 4) (N := some 115) (v := ?_) (a' := ?_) #[true, true, true, true, true, false] rfl rfl (by kernel_rfl) (fun _ _ _ h => h) (Or.inl ⟨by rfl, ?_⟩) hHeld ?_ ?_
                            rotate_left
                            · rintro w' ⟨s0, s1, s2, s3, s4, s5, s6, s7, s8, s9, s10, s11, s12, s13, s14, s15, s16, s17⟩
                              go_simp
                              with_reducible rfl
                            rotate_left
                            · simp only [Act.put, List.setIfInBounds_toArray, List.set_cons_zero, List.set_cons_succ, i64_w, i32_w]
                              rfl
                            refine pure_ (i := 5) (N := some 116) (v := ?_) (a' := ?_) #[true, true, true, true, true, true] rfl rfl (by kernel_rfl) (fun _ _ _ h => h) (Or.inl ⟨by rfl, ?_⟩) ?_ ?_
                            rotate_left
                            · intro w'
                              go_simp
                              with_reducible rfl
                            rotate_left
                            · simp only [Act.put, List.setIfInBounds_toArray, List.set_cons_zero, List.set_cons_succ, i64_w, i32_w]
                              rfl
                            refine done_ (by kernel_rfl) ?_
                            try go_wp2
                            go_roundg k6
                            case measure => have := HJ3.out; have := HJ12.out; have := HJ21.out; have := HK4.out; have := HJ34.out; have := HK6.out; omega
                            case rel => exact ⟨(wrap64 (x17_6 + 1)), (by first | rfl | (simp; done) | (simp [*]; done) | exact congrArg (Value.int .i64) (by unfold wrap64; omega)), (by first | exact H' | (subst_vars; exact H')), ⟨by have := HJ3.out; have := HJ12.out; have := HJ21.out; have := HK4.out; have := HJ34.out; have := HK6.out; omega⟩, ⟨by (with_reducible repeat (first | apply Kd.R_alloc | apply Kd.R_drewN | apply Kd.R_drew)); exact Kd.R_mono HO_7.out (fun _ hk => hk.1)⟩, ⟨by (with_reducible repeat (first | apply Kd.R_alloc | apply Kd.R_drewN | apply Kd.R_drew)); exact Kd.R_mono HO_14.out (fun _ hk => hk.1)⟩, ⟨belx1 HB GE465⟩⟩
                          rw [if_pos c43] at H
                          have c43b0 : decide (ji19 ≤ x17_6) = true := decide_eq_true c43
                          clear c43
                          by_cases c44 : x17_6 < (t459.length : Int)
                          case neg => rw [if_neg c44] at H; exact absurd H (by simp)
                          rw [if_pos c44] at H
                          have c44b0 : decide (x17_6 < (t459.length : Int)) = true := decide_eq_true c44
                          clear c44
                          by_cases c45 : (!(((rd_T35 t459 x17_6).f0) == ((rd_T35 t453 x17_6).f0)) || (!(((rd_T35 t459 x17_6).f1) == (wrap64 (((rd_T35 t453 x17_6).f1) + (x12_4.size : Int)))) || ((!(((rd_T35 t459 x17_6).f2.f0) == ((rd_T35 t453 x17_6).f2.f0)) || (!(((rd_T35 t459 x17_6).f2.f1) == ((rd_T35 t453 x17_6).f2.f1)) || (!(((rd_T35 t459 x17_6).f2.f2) == ((rd_T35 t453 x17_6).f2.f2)) || (!(((rd_T35 t459 x17_6).f2.f3) == ((rd_T35 t453 x17_6).f2.f3)))))) || (!((((rd_T35 t459 x17_6).f3).toList) == (((rd_T35 t453 x17_6).f3).toList)) || (!(((rd_T35 t459 x17_6).f4) == ((rd_T35 t453 x17_6).f4)) || (!(((rd_T35 t459 x17_6).f5) == ((rd_T35 t453 x17_6).f5)))))))) = true
                          case pos =>
                            rw [if_pos c45] at H
                            have c45b0 : (!(((rd_T35 t459 x17_6).f0) == ((rd_T35 t453 x17_6).f0)) || (!(((rd_T35 t459 x17_6).f1) == (wrap64 (((rd_T35 t453 x17_6).f1) + (x12_4.size : Int)))) || ((!(((rd_T35 t459 x17_6).f2.f0) == ((rd_T35 t453 x17_6).f2.f0)) || (!(((rd_T35 t459 x17_6).f2.f1) == ((rd_T35 t453 x17_6).f2.f1)) || (!(((rd_T35 t459 x17_6).f2.f2) == ((rd_T35 t453 x17_6).f2.f2)) || (!(((rd_T35 t459 x17_6).f2.f3) == ((rd_T35 t453 x17_6).f2.f3)))))) || (!((((rd_T35 t459 x17_6).f3).toList) == (((rd_T35 t453 x17_6).f3).toList)) || (!(((rd_T35 t459 x17_6).f4) == ((rd_T35 t453 x17_6).f4)) || (!(((rd_T35 t459 x17_6).f5) == ((rd_T35 t453 x17_6).f5)))))))) = true := c45
                            clear c45
                            obtain rfl := Option.some.inj H
                            have p464 : 0 ≤ (x17_6 : Int) := odt
                            have q464 : x17_6 < (t453.length : Int) := odt
                            obtain ⟨ad464, e464, hx464_0, hx464_1, hx464_2, hx464_3, hx464_4, hx464_5, hx464_6, hx464_7, hx464_8⟩ := at_T35 (Kd.R_reads' HO_7.out).2.2 x17_6 p464 q464
                            obtain rfl : ad458 = ad464 := (by injection e464)
                            replace p464 := eq_true p464
                            replace q464 := eq_true q464
                            try go_wp2_with (first | ((with_reducible refine gate_dst (N := 18) rfl ?_); (try (refine gate_guard (by rfl) ?_; dsimp only)); refine box_event ?hg (N := 18) ?hd (cs := #[.int .i64 0, .int .i64 0, .int .u64 0, .int .u64 0, .int .u64 0, .int .u64 0, .string (⟨#[]⟩ : ByteArray), .int .i64 0, .int .i64 0]) (t := 35) ?hr ?_; (case hd => rfl); (case hg => rfl); (case hr => first | (go_simp; done) | (go_simp; rfl)); intro gb465 hg w46 hbox hb; have n0_ := Aside0.mk (Kd.R_below (Kd.R_elderB (by (with_reducible repeat (first | apply Kd.R_alloc | apply Kd.R_drewN | apply Kd.R_drew)); exact HO_7.out) gb465 (Nat.le_of_eq hg.symm)) hb); have n1_ := Aside0.mk (Kd.R_below (Kd.R_elderB (by (with_reducible repeat (first | apply Kd.R_alloc | apply Kd.R_drewN | apply Kd.R_drew)); exact HO_14.out) gb465 (Nat.le_of_eq hg.symm)) hb); have n2_ := Aside0.mk (below_step (belx HB) hb); have n3_ := Aside0.mk (hbox); have n4_ := Aside0.mk ((by rw [hg]; exact (below_size (belx HB)) : w.heap.size ≤ gb465)); have n5_ := Aside0.mk ((by rw [hg]; exact (below_size (belx HB)) : w.heap.size ≤ gb465)); clear HO_7; clear HO_14; clear HB; have HO_7 := n0_; have HO_14 := n1_; have HB := n2_; have BK465 := n3_; have GW465 := n4_; have GE465 := n5_; clear n0_ n1_ n2_ n3_ n4_ n5_; clear hb hbox hg; obtain ⟨hcz47_0, hcz47_1, hcz47_2, hcz47_3, hcz47_4, hcz47_5, hcz47_6, hcz47_7, hcz47_8, hfz47_0, hfz47_1, hfz47_2, hfz47_3, hfz47_4, hfz47_5, hfz47_6, hfz47_7, hfz47_8⟩ := cells9 BK465.out) | ((with_reducible refine gate_store (t := 35) (p := 18) rfl ?_); refine store_event (t := 35) (p := 18) (v := ?vo_w48) (w1 := (((((((((w46.setCell ⟨gb465, 0, none⟩ (.int .i64 ((rd_T35 t453 x17_6).f0))).setCell ⟨gb465, 1, none⟩ (.int .i64 ((rd_T35 t453 x17_6).f1))).setCell ⟨gb465, 2, none⟩ (.int .u64 ((rd_T35 t453 x17_6).f2.f0))).setCell ⟨gb465, 3, none⟩ (.int .u64 ((rd_T35 t453 x17_6).f2.f1))).setCell ⟨gb465, 4, none⟩ (.int .u64 ((rd_T35 t453 x17_6).f2.f2))).setCell ⟨gb465, 5, none⟩ (.int .u64 ((rd_T35 t453 x17_6).f2.f3))).setCell ⟨gb465, 6, none⟩ (.string ((rd_T35 t453 x17_6).f3))).setCell ⟨gb465, 7, none⟩ (.int .i64 ((rd_T35 t453 x17_6).f4))).setCell ⟨gb465, 8, none⟩ (.int .i64 ((rd_T35 t453 x17_6).f5)))) ?hg ?ho ?hn ?hr ?_; (case ho => rfl); (case hg => rfl); (case hn => rfl); (case hr => first | (go_simp; done) | (go_simp; rfl)); intro w48 hw; have n0_ : Aside0 (Kd.R k35 35 w48 w.heap.size (fun k_ => some k_ ≠ (v462 : Value).ownBlock ∧ k_ ≠ gb465) (.slice (some ad458) t453.length co23) t453) := ⟨(by rw [hw]; exact (by (with_reducible repeat (first | apply Kd.R_alloc | apply Kd.R_drewN | apply Kd.R_drew)); exact Kd.R_mono (Kd.R_far (p := ⟨gb465, 8, none⟩) (Kd.R_far (p := ⟨gb465, 7, none⟩) (Kd.R_far (p := ⟨gb465, 6, none⟩) (Kd.R_far (p := ⟨gb465, 5, none⟩) (Kd.R_far (p := ⟨gb465, 4, none⟩) (Kd.R_far (p := ⟨gb465, 3, none⟩) (Kd.R_far (p := ⟨gb465, 2, none⟩) (Kd.R_far (p := ⟨gb465, 1, none⟩) (Kd.R_far (p := ⟨gb465, 0, none⟩) (Kd.R_mono HO_7.out (fun k_ hk => (⟨hk, hk.2⟩ : _ ∧ k_ ≠ gb465))) (fun _ hk => hk.2) (.int .i64 ((rd_T35 t453 x17_6).f0))) (fun _ hk => hk.2) (.int .i64 ((rd_T35 t453 x17_6).f1))) (fun _ hk => hk.2) (.int .u64 ((rd_T35 t453 x17_6).f2.f0))) (fun _ hk => hk.2) (.int .u64 ((rd_T35 t453 x17_6).f2.f1))) (fun _ hk => hk.2) (.int .u64 ((rd_T35 t453 x17_6).f2.f2))) (fun _ hk => hk.2) (.int .u64 ((rd_T35 t453 x17_6).f2.f3))) (fun _ hk => hk.2) (.string ((rd_T35 t453 x17_6).f3))) (fun _ hk => hk.2) (.int .i64 ((rd_T35 t453 x17_6).f4))) (fun _ hk => hk.2) (.int .i64 ((rd_T35 t453 x17_6).f5))) (fun _ hk => ⟨hk.1.1, hk.1.2⟩)))⟩; have n1_ : Aside0 (Kd.R k35 35 w48 w.heap.size (fun k_ => some k_ ≠ (.slice (some ad458) t453.length co23 : Value).ownBlock ∧ k_ ≠ gb465) v462 t459) := ⟨(by rw [hw]; exact (by (with_reducible repeat (first | apply Kd.R_alloc | apply Kd.R_drewN | apply Kd.R_drew)); exact Kd.R_mono (Kd.R_far (p := ⟨gb465, 8, none⟩) (Kd.R_far (p := ⟨gb465, 7, none⟩) (Kd.R_far (p := ⟨gb465, 6, none⟩) (Kd.R_far (p := ⟨gb465, 5, none⟩) (Kd.R_far (p := ⟨gb465, 4, none⟩) (Kd.R_far (p := ⟨gb465, 3, none⟩) (Kd.R_far (p := ⟨gb465, 2, none⟩) (Kd.R_far (p := ⟨gb465, 1, none⟩) (Kd.R_far (p := ⟨gb465, 0, none⟩) (Kd.R_mono HO_14.out (fun k_ hk => (⟨hk, hk.2⟩ : _ ∧ k_ ≠ gb465))) (fun _ hk => hk.2) (.int .i64 ((rd_T35 t453 x17_6).f0))) (fun _ hk => hk.2) (.int .i64 ((rd_T35 t453 x17_6).f1))) (fun _ hk => hk.2) (.int .u64 ((rd_T35 t453 x17_6).f2.f0))) (fun _ hk => hk.2) (.int .u64 ((rd_T35 t453 x17_6).f2.f1))) (fun _ hk => hk.2) (.int .u64 ((rd_T35 t453 x17_6).f2.f2))) (fun _ hk => hk.2) (.int .u64 ((rd_T35 t453 x17_6).f2.f3))) (fun _ hk => hk.2) (.string ((rd_T35 t453 x17_6).f3))) (fun _ hk => hk.2) (.int .i64 ((rd_T35 t453 x17_6).f4))) (fun _ hk => hk.2) (.int .i64 ((rd_T35 t453 x17_6).f5))) (fun _ hk => ⟨hk.1.1, hk.1.2⟩)))⟩; have n2_ : Aside0 (w48.heap[gb465]? = some (.cells #[.int .i64 ((rd_T35 t453 x17_6).f0), .int .i64 ((rd_T35 t453 x17_6).f1), .int .u64 ((rd_T35 t453 x17_6).f2.f0), .int .u64 ((rd_T35 t453 x17_6).f2.f1), .int .u64 ((rd_T35 t453 x17_6).f2.f2), .int .u64 ((rd_T35 t453 x17_6).f2.f3), .string ((rd_T35 t453 x17_6).f3), .int .i64 ((rd_T35 t453 x17_6).f4), .int .i64 ((rd_T35 t453 x17_6).f5)] 35 (0, 0))) := ⟨(by rw [hw]; exact (by (with_reducible repeat (first | refine blk_drewN ?_ _ | refine blk_drew ?_ | refine blk_alloc ?_ _)); exact put9h BK465.out))⟩; have n3_ : Aside0 (Below w.heap.size w w48) := ⟨(by rw [hw]; exact (belx1 HB GE465))⟩; clear hw; clear HO_7; clear HO_14; clear BK465; clear HB; have HO_7 := n0_; have HO_14 := n1_; have BK465 := n2_; have HB := n3_; clear n0_ n1_ n2_ n3_; obtain ⟨hcz49_0, hcz49_1, hcz49_2, hcz49_3, hcz49_4, hcz49_5, hcz49_6, hcz49_7, hcz49_8, hfz49_0, hfz49_1, hfz49_2, hfz49_3, hfz49_4, hfz49_5, hfz49_6, hfz49_7, hfz49_8⟩ := cells9 BK465.out))
                            have n0_ : Aside0 (Kd.R k35 35 (w48.setCell ⟨gb465, 1, none⟩ (.int .i64 (wrap64 (((rd_T35 t453 x17_6).f1) + (x12_4.size : Int))))) w.heap.size (fun k_ => some k_ ≠ (v462 : Value).ownBlock ∧ k_ ≠ gb465) (.slice (some ad458) t453.length co23) t453) := ⟨by (with_reducible repeat (first | apply Kd.R_alloc | apply Kd.R_drewN | apply Kd.R_drew)); exact Kd.R_mono (Kd.R_far (p := ⟨gb465, 1, none⟩) (Kd.R_mono HO_7.out (fun k_ hk => (⟨hk, hk.2⟩ : _ ∧ k_ ≠ gb465))) (fun _ hk => hk.2) (.int .i64 (wrap64 (((rd_T35 t453 x17_6).f1) + (x12_4.size : Int))))) (fun _ hk => ⟨hk.1.1, hk.1.2⟩)⟩
                            have n1_ : Aside0 (Kd.R k35 35 (w48.setCell ⟨gb465, 1, none⟩ (.int .i64 (wrap64 (((rd_T35 t453 x17_6).f1) + (x12_4.size : Int))))) w.heap.size (fun k_ => some k_ ≠ (.slice (some ad458) t453.length co23 : Value).ownBlock ∧ k_ ≠ gb465) v462 t459) := ⟨by (with_reducible repeat (first | apply Kd.R_alloc | apply Kd.R_drewN | apply Kd.R_drew)); exact Kd.R_mono (Kd.R_far (p := ⟨gb465, 1, none⟩) (Kd.R_mono HO_14.out (fun k_ hk => (⟨hk, hk.2⟩ : _ ∧ k_ ≠ gb465))) (fun _ hk => hk.2) (.int .i64 (wrap64 (((rd_T35 t453 x17_6).f1) + (x12_4.size : Int))))) (fun _ hk => ⟨hk.1.1, hk.1.2⟩)⟩
                            have n2_ : Aside0 ((w48.setCell ⟨gb465, 1, none⟩ (.int .i64 (wrap64 (((rd_T35 t453 x17_6).f1) + (x12_4.size : Int))))).heap[gb465]? = some (.cells #[.int .i64 ((rd_T35 t453 x17_6).f0), .int .i64 (wrap64 (((rd_T35 t453 x17_6).f1) + (x12_4.size : Int))), .int .u64 ((rd_T35 t453 x17_6).f2.f0), .int .u64 ((rd_T35 t453 x17_6).f2.f1), .int .u64 ((rd_T35 t453 x17_6).f2.f2), .int .u64 ((rd_T35 t453 x17_6).f2.f3), .string ((rd_T35 t453 x17_6).f3), .int .i64 ((rd_T35 t453 x17_6).f4), .int .i64 ((rd_T35 t453 x17_6).f5)] 35 (0, 0))) := ⟨by (with_reducible repeat (first | refine blk_drewN ?_ _ | refine blk_drew ?_ | refine blk_alloc ?_ _)); refine blk_put (cs := #[.int .i64 ((rd_T35 t453 x17_6).f0), .int .i64 ((rd_T35 t453 x17_6).f1), .int .u64 ((rd_T35 t453 x17_6).f2.f0), .int .u64 ((rd_T35 t453 x17_6).f2.f1), .int .u64 ((rd_T35 t453 x17_6).f2.f2), .int .u64 ((rd_T35 t453 x17_6).f2.f3), .string ((rd_T35 t453 x17_6).f3), .int .i64 ((rd_T35 t453 x17_6).f4), .int .i64 ((rd_T35 t453 x17_6).f5)]) ?_ 1 _ rfl; (with_reducible repeat (first | refine blk_drewN ?_ _ | refine blk_drew ?_ | refine blk_alloc ?_ _)); exact BK465.out⟩
                            have n3_ : Aside0 (Below w.heap.size w (w48.setCell ⟨gb465, 1, none⟩ (.int .i64 (wrap64 (((rd_T35 t453 x17_6).f1) + (x12_4.size : Int)))))) := ⟨belx1 HB GE465⟩
                            (try clear HO_7)
                            (try clear HO_14)
                            (try clear BK465)
                            (try clear HB)
                            generalize (w48.setCell ⟨gb465, 1, none⟩ (.int .i64 (wrap64 (((rd_T35 t453 x17_6).f1) + (x12_4.size : Int))))) = w50 at n0_ n1_ n2_ n3_ ⊢
                            have HO_7 := n0_
                            have HO_14 := n1_
                            have BK465 := n2_
                            have HB := n3_
                            clear n0_ n1_ n2_ n3_
                            have n0_ := Aside0.mk (Kd.R_drew HO_7.out)
                            have n1_ := Aside0.mk (Kd.R_drew HO_14.out)
                            have n2_ := Aside0.mk (blk_drew BK465.out)
                            have n3_ := Aside0.mk (below_drew1 HB.out)
                            clear HO_7
                            clear HO_14
                            clear BK465
                            clear HB
                            have HO_7 := n0_
                            have HO_14 := n1_
                            have BK465 := n2_
                            have HB := n3_
                            clear n0_ n1_ n2_ n3_
                            obtain ⟨Ao52, co52, eo52⟩ := Kd.R_slice HO_14.out
                            (first | subst eo52 | (injection eo52 with f1_ f2_ f3_; have f4_ := f1_.symm; have f5_ := f3_.symm; clear f1_ f2_ f3_; subst f4_; subst f5_))
                            have p466 : 0 ≤ (x17_6 : Int) := odt
                            have q466 : x17_6 < (t459.length : Int) := odt
                            obtain ⟨ad466, e466, hx466_0, hx466_1, hx466_2, hx466_3, hx466_4, hx466_5, hx466_6, hx466_7, hx466_8⟩ := at_T35 (Kd.R_reads' HO_14.out).2.2 x17_6 p466 q466
                            cases e466
                            replace p466 := eq_true p466
                            replace q466 := eq_true q466
                            refine start_ (n := 6) (S := fun w' => w'.cell? ⟨gb465, 0, none⟩ = some (.int .i64 ((rd_T35 t453 x17_6).f0)) ∧ w'.cell? ⟨gb465, 1, none⟩ = some (.int .i64 (wrap64 (((rd_T35 t453 x17_6).f1) + (x12_4.size : Int)))) ∧ w'.cell? ⟨gb465, 2, none⟩ = some (.int .u64 ((rd_T35 t453 x17_6).f2.f0)) ∧ w'.cell? ⟨gb465, 3, none⟩ = some (.int .u64 ((rd_T35 t453 x17_6).f2.f1)) ∧ w'.cell? ⟨gb465, 4, none⟩ = some (.int .u64 ((rd_T35 t453 x17_6).f2.f2)) ∧ w'.cell? ⟨gb465, 5, none⟩ = some (.int .u64 ((rd_T35 t453 x17_6).f2.f3)) ∧ w'.cell? ⟨gb465, 6, none⟩ = some (.string ((rd_T35 t453 x17_6).f3)) ∧ w'.cell? ⟨gb465, 7, none⟩ = some (.int .i64 ((rd_T35 t453 x17_6).f4)) ∧ w'.cell? ⟨gb465, 8, none⟩ = some (.int .i64 ((rd_T35 t453 x17_6).f5)) ∧ w'.cell? (ad466.add ((x17_6).toNat * 9)) = some (.int .i64 ((rd_T35 t459 x17_6).f0)) ∧ w'.cell? ⟨(ad466.add ((x17_6).toNat * 9)).block, (ad466.add ((x17_6).toNat * 9)).off + 1, none⟩ = some (.int .i64 ((rd_T35 t459 x17_6).f1)) ∧ w'.cell? ⟨(ad466.add ((x17_6).toNat * 9)).block, (ad466.add ((x17_6).toNat * 9)).off + 2, none⟩ = some (.int .u64 ((rd_T35 t459 x17_6).f2.f0)) ∧ w'.cell? ⟨(ad466.add ((x17_6).toNat * 9)).block, (ad466.add ((x17_6).toNat * 9)).off + 3, none⟩ = some (.int .u64 ((rd_T35 t459 x17_6).f2.f1)) ∧ w'.cell? ⟨(ad466.add ((x17_6).toNat * 9)).block, (ad466.add ((x17_6).toNat * 9)).off + 4, none⟩ = some (.int .u64 ((rd_T35 t459 x17_6).f2.f2)) ∧ w'.cell? ⟨(ad466.add ((x17_6).toNat * 9)).block, (ad466.add ((x17_6).toNat * 9)).off + 5, none⟩ = some (.int .u64 ((rd_T35 t459 x17_6).f2.f3)) ∧ w'.cell? ⟨(ad466.add ((x17_6).toNat * 9)).block, (ad466.add ((x17_6).toNat * 9)).off + 6, none⟩ = some (.string ((rd_T35 t459 x17_6).f3)) ∧ w'.cell? ⟨(ad466.add ((x17_6).toNat * 9)).block, (ad466.add ((x17_6).toNat * 9)).off + 7, none⟩ = some (.int .i64 ((rd_T35 t459 x17_6).f4)) ∧ w'.cell? ⟨(ad466.add ((x17_6).toNat * 9)).block, (ad466.add ((x17_6).toNat * 9)).off + 8, none⟩ = some (.int .i64 ((rd_T35 t459 x17_6).f5))) (ds := []) #[false, false, false, false, false, false] (by kernel_rfl) rfl rfl ⟨(blk_cell BK465.out 0).trans rfl, (blk_cell BK465.out 1).trans rfl, (blk_cell BK465.out 2).trans rfl, (blk_cell BK465.out 3).trans rfl, (blk_cell BK465.out 4).trans rfl, (blk_cell BK465.out 5).trans rfl, (blk_cell BK465.out 6).trans rfl, (blk_cell BK465.out 7).trans rfl, (blk_cell BK465.out 8).trans rfl, hx466_0, hx466_1, hx466_2, hx466_3, hx466_4, hx466_5, hx466_6, hx466_7, hx466_8⟩ (fun hHeld => ?_)
                            generalize w50.drew = w51 at HO_7 HO_14 BK465 HB hx466_0 hx466_1 hx466_2 hx466_3 hx466_4 hx466_5 hx466_6 hx466_7 hx466_8 hHeld ⊢
                            refine pure_ (i := 0) (N := some 111) (v := ?_) (a' := ?_) #[true, false, false, false, false, false] rfl rfl (by kernel_rfl) (fun _ _ _ h => h) (Or.inl ⟨by rfl, ?_⟩) ?_ ?_
                            rotate_left
                            · intro w'
                              go_simp
                              with_reducible rfl
                            rotate_left
                            · simp only [Act.put, List.setIfInBounds_toArray, List.set_cons_zero, List.set_cons_succ, i64_w, i32_w]
                              rfl
                            refine pure_ (i := 1) (N := some 112) (v := ?_) (a' := ?_) #[true, true, false, false, false, false] rfl rfl (by kernel_rfl) (fun _ _ _ h => h) (Or.inl ⟨by rfl, ?_⟩) ?_ ?_
                            rotate_left
                            · intro w'
                              go_simp
                              with_reducible rfl
                            rotate_left
                            · simp only [Act.put, List.setIfInBounds_toArray, List.set_cons_zero, List.set_cons_succ, i64_w, i32_w]
                              rfl
                            refine pure_ (i := 2) (N := some 113) (v := ?_) (a' := ?_) #[true, true, true, false, false, false] rfl rfl (by kernel_rfl) (fun _ _ _ h => h) (Or.inl ⟨by rfl, ?_⟩) ?_ ?_
                            rotate_left
                            · intro w'
                              go_simp
                              with_reducible rfl
                            rotate_left
                            · simp only [Act.put, List.setIfInBounds_toArray, List.set_cons_zero, List.set_cons_succ, i64_w, i32_w]
                              rfl
                            refine take_ (i := 3) (N := some 114) (v := ?_) (a' := ?_) #[true, true, true, true, false, false] rfl rfl (by kernel_rfl) (fun _ _ _ h => h) (Or.inl ⟨by rfl, ?_⟩) hHeld ?_ ?_
                            rotate_left
                            · rintro w' ⟨s0, s1, s2, s3, s4, s5, s6, s7, s8, s9, s10, s11, s12, s13, s14, s15, s16, s17⟩
                              go_simp
                              with_reducible rfl
                            rotate_left
                            · simp only [Act.put, List.setIfInBounds_toArray, List.set_cons_zero, List.set_cons_succ, i64_w, i32_w]
                              rfl
                            refine take_ (i := 4) (N := some 115) (v := ?_) (a' := ?_) #[true, true, true, true, true, false] rfl rfl (by kernel_rfl) (fun _ _ _ h => h) (Or.inl ⟨by rfl, ?_⟩) hHeld ?_ ?_
                            rotate_left
                            · rintro w' ⟨s0, s1, s2, s3, s4, s5, s6, s7, s8, s9, s10, s11, s12, s13, s14, s15, s16, s17⟩
                              go_simp
                              with_reducible rfl
                            rotate_left
                            · simp only [Act.put, List.setIfInBounds_toArray, List.set_cons_zero, List.set_cons_succ, i64_w, i32_w]
                              rfl
                            refine pure_ (i := 5) (N := some 116) (v := ?_) (a' := ?_) #[true, true, true, true, true, true] rfl rfl (by kernel_rfl) (fun _ _ _ h => h) (Or.inl ⟨by rfl, ?_⟩) ?_ ?_
                            rotate_left
                            · intro w'
                              go_simp
                              with_reducible rfl
                            rotate_left
                            · simp only [Act.put, List.setIfInBounds_toArray, List.set_cons_zero, List.set_cons_succ, i64_w, i32_w]
                              rfl
                            refine done_ (by kernel_rfl) ?_
                            try go_wp2
                            go_ret
                            exact ⟨by first | rfl | (simp [errW_none, errW_some] <;> rfl) | (simp only [← hji19]; first | rfl | (simp [errW_none, errW_some] <;> rfl)) | (simp [*, errW_none, errW_some] <;> rfl), belx1 HB GE465⟩
                          rw [if_neg c45] at H
                          have c45b0 : (!(((rd_T35 t459 x17_6).f0) == ((rd_T35 t453 x17_6).f0)) || (!(((rd_T35 t459 x17_6).f1) == (wrap64 (((rd_T35 t453 x17_6).f1) + (x12_4.size : Int)))) || ((!(((rd_T35 t459 x17_6).f2.f0) == ((rd_T35 t453 x17_6).f2.f0)) || (!(((rd_T35 t459 x17_6).f2.f1) == ((rd_T35 t453 x17_6).f2.f1)) || (!(((rd_T35 t459 x17_6).f2.f2) == ((rd_T35 t453 x17_6).f2.f2)) || (!(((rd_T35 t459 x17_6).f2.f3) == ((rd_T35 t453 x17_6).f2.f3)))))) || (!((((rd_T35 t459 x17_6).f3).toList) == (((rd_T35 t453 x17_6).f3).toList)) || (!(((rd_T35 t459 x17_6).f4) == ((rd_T35 t453 x17_6).f4)) || (!(((rd_T35 t459 x17_6).f5) == ((rd_T35 t453 x17_6).f5)))))))) = false := by simpa using c45
                          clear c45
                          have H' := Aside0.mk H
                          clear H
                          have p464 : 0 ≤ (x17_6 : Int) := odt
                          have q464 : x17_6 < (t453.length : Int) := odt
                          obtain ⟨ad464, e464, hx464_0, hx464_1, hx464_2, hx464_3, hx464_4, hx464_5, hx464_6, hx464_7, hx464_8⟩ := at_T35 (Kd.R_reads' HO_7.out).2.2 x17_6 p464 q464
                          obtain rfl : ad458 = ad464 := (by injection e464)
                          replace p464 := eq_true p464
                          replace q464 := eq_true q464
                          try go_wp2_with (first | ((with_reducible refine gate_dst (N := 18) rfl ?_); (try (refine gate_guard (by rfl) ?_; dsimp only)); refine box_event ?hg (N := 18) ?hd (cs := #[.int .i64 0, .int .i64 0, .int .u64 0, .int .u64 0, .int .u64 0, .int .u64 0, .string (⟨#[]⟩ : ByteArray), .int .i64 0, .int .i64 0]) (t := 35) ?hr ?_; (case hd => rfl); (case hg => rfl); (case hr => first | (go_simp; done) | (go_simp; rfl)); intro gb465 hg w53 hbox hb; have n0_ := Aside0.mk (Kd.R_below (Kd.R_elderB (by (with_reducible repeat (first | apply Kd.R_alloc | apply Kd.R_drewN | apply Kd.R_drew)); exact HO_7.out) gb465 (Nat.le_of_eq hg.symm)) hb); have n1_ := Aside0.mk (Kd.R_below (Kd.R_elderB (by (with_reducible repeat (first | apply Kd.R_alloc | apply Kd.R_drewN | apply Kd.R_drew)); exact HO_14.out) gb465 (Nat.le_of_eq hg.symm)) hb); have n2_ := Aside0.mk (below_step (belx HB) hb); have n3_ := Aside0.mk (hbox); have n4_ := Aside0.mk ((by rw [hg]; exact (below_size (belx HB)) : w.heap.size ≤ gb465)); have n5_ := Aside0.mk ((by rw [hg]; exact (below_size (belx HB)) : w.heap.size ≤ gb465)); clear HO_7; clear HO_14; clear HB; have HO_7 := n0_; have HO_14 := n1_; have HB := n2_; have BK465 := n3_; have GW465 := n4_; have GE465 := n5_; clear n0_ n1_ n2_ n3_ n4_ n5_; clear hb hbox hg; obtain ⟨hcz54_0, hcz54_1, hcz54_2, hcz54_3, hcz54_4, hcz54_5, hcz54_6, hcz54_7, hcz54_8, hfz54_0, hfz54_1, hfz54_2, hfz54_3, hfz54_4, hfz54_5, hfz54_6, hfz54_7, hfz54_8⟩ := cells9 BK465.out) | ((with_reducible refine gate_store (t := 35) (p := 18) rfl ?_); refine store_event (t := 35) (p := 18) (v := ?vo_w55) (w1 := (((((((((w53.setCell ⟨gb465, 0, none⟩ (.int .i64 ((rd_T35 t453 x17_6).f0))).setCell ⟨gb465, 1, none⟩ (.int .i64 ((rd_T35 t453 x17_6).f1))).setCell ⟨gb465, 2, none⟩ (.int .u64 ((rd_T35 t453 x17_6).f2.f0))).setCell ⟨gb465, 3, none⟩ (.int .u64 ((rd_T35 t453 x17_6).f2.f1))).setCell ⟨gb465, 4, none⟩ (.int .u64 ((rd_T35 t453 x17_6).f2.f2))).setCell ⟨gb465, 5, none⟩ (.int .u64 ((rd_T35 t453 x17_6).f2.f3))).setCell ⟨gb465, 6, none⟩ (.string ((rd_T35 t453 x17_6).f3))).setCell ⟨gb465, 7, none⟩ (.int .i64 ((rd_T35 t453 x17_6).f4))).setCell ⟨gb465, 8, none⟩ (.int .i64 ((rd_T35 t453 x17_6).f5)))) ?hg ?ho ?hn ?hr ?_; (case ho => rfl); (case hg => rfl); (case hn => rfl); (case hr => first | (go_simp; done) | (go_simp; rfl)); intro w55 hw; have n0_ : Aside0 (Kd.R k35 35 w55 w.heap.size (fun k_ => some k_ ≠ (v462 : Value).ownBlock ∧ k_ ≠ gb465) (.slice (some ad458) t453.length co23) t453) := ⟨(by rw [hw]; exact (by (with_reducible repeat (first | apply Kd.R_alloc | apply Kd.R_drewN | apply Kd.R_drew)); exact Kd.R_mono (Kd.R_far (p := ⟨gb465, 8, none⟩) (Kd.R_far (p := ⟨gb465, 7, none⟩) (Kd.R_far (p := ⟨gb465, 6, none⟩) (Kd.R_far (p := ⟨gb465, 5, none⟩) (Kd.R_far (p := ⟨gb465, 4, none⟩) (Kd.R_far (p := ⟨gb465, 3, none⟩) (Kd.R_far (p := ⟨gb465, 2, none⟩) (Kd.R_far (p := ⟨gb465, 1, none⟩) (Kd.R_far (p := ⟨gb465, 0, none⟩) (Kd.R_mono HO_7.out (fun k_ hk => (⟨hk, hk.2⟩ : _ ∧ k_ ≠ gb465))) (fun _ hk => hk.2) (.int .i64 ((rd_T35 t453 x17_6).f0))) (fun _ hk => hk.2) (.int .i64 ((rd_T35 t453 x17_6).f1))) (fun _ hk => hk.2) (.int .u64 ((rd_T35 t453 x17_6).f2.f0))) (fun _ hk => hk.2) (.int .u64 ((rd_T35 t453 x17_6).f2.f1))) (fun _ hk => hk.2) (.int .u64 ((rd_T35 t453 x17_6).f2.f2))) (fun _ hk => hk.2) (.int .u64 ((rd_T35 t453 x17_6).f2.f3))) (fun _ hk => hk.2) (.string ((rd_T35 t453 x17_6).f3))) (fun _ hk => hk.2) (.int .i64 ((rd_T35 t453 x17_6).f4))) (fun _ hk => hk.2) (.int .i64 ((rd_T35 t453 x17_6).f5))) (fun _ hk => ⟨hk.1.1, hk.1.2⟩)))⟩; have n1_ : Aside0 (Kd.R k35 35 w55 w.heap.size (fun k_ => some k_ ≠ (.slice (some ad458) t453.length co23 : Value).ownBlock ∧ k_ ≠ gb465) v462 t459) := ⟨(by rw [hw]; exact (by (with_reducible repeat (first | apply Kd.R_alloc | apply Kd.R_drewN | apply Kd.R_drew)); exact Kd.R_mono (Kd.R_far (p := ⟨gb465, 8, none⟩) (Kd.R_far (p := ⟨gb465, 7, none⟩) (Kd.R_far (p := ⟨gb465, 6, none⟩) (Kd.R_far (p := ⟨gb465, 5, none⟩) (Kd.R_far (p := ⟨gb465, 4, none⟩) (Kd.R_far (p := ⟨gb465, 3, none⟩) (Kd.R_far (p := ⟨gb465, 2, none⟩) (Kd.R_far (p := ⟨gb465, 1, none⟩) (Kd.R_far (p := ⟨gb465, 0, none⟩) (Kd.R_mono HO_14.out (fun k_ hk => (⟨hk, hk.2⟩ : _ ∧ k_ ≠ gb465))) (fun _ hk => hk.2) (.int .i64 ((rd_T35 t453 x17_6).f0))) (fun _ hk => hk.2) (.int .i64 ((rd_T35 t453 x17_6).f1))) (fun _ hk => hk.2) (.int .u64 ((rd_T35 t453 x17_6).f2.f0))) (fun _ hk => hk.2) (.int .u64 ((rd_T35 t453 x17_6).f2.f1))) (fun _ hk => hk.2) (.int .u64 ((rd_T35 t453 x17_6).f2.f2))) (fun _ hk => hk.2) (.int .u64 ((rd_T35 t453 x17_6).f2.f3))) (fun _ hk => hk.2) (.string ((rd_T35 t453 x17_6).f3))) (fun _ hk => hk.2) (.int .i64 ((rd_T35 t453 x17_6).f4))) (fun _ hk => hk.2) (.int .i64 ((rd_T35 t453 x17_6).f5))) (fun _ hk => ⟨hk.1.1, hk.1.2⟩)))⟩; have n2_ : Aside0 (w55.heap[gb465]? = some (.cells #[.int .i64 ((rd_T35 t453 x17_6).f0), .int .i64 ((rd_T35 t453 x17_6).f1), .int .u64 ((rd_T35 t453 x17_6).f2.f0), .int .u64 ((rd_T35 t453 x17_6).f2.f1), .int .u64 ((rd_T35 t453 x17_6).f2.f2), .int .u64 ((rd_T35 t453 x17_6).f2.f3), .string ((rd_T35 t453 x17_6).f3), .int .i64 ((rd_T35 t453 x17_6).f4), .int .i64 ((rd_T35 t453 x17_6).f5)] 35 (0, 0))) := ⟨(by rw [hw]; exact (by (with_reducible repeat (first | refine blk_drewN ?_ _ | refine blk_drew ?_ | refine blk_alloc ?_ _)); exact put9h BK465.out))⟩; have n3_ : Aside0 (Below w.heap.size w w55) := ⟨(by rw [hw]; exact (belx1 HB GE465))⟩; clear hw; clear HO_7; clear HO_14; clear BK465; clear HB; have HO_7 := n0_; have HO_14 := n1_; have BK465 := n2_; have HB := n3_; clear n0_ n1_ n2_ n3_; obtain ⟨hcz56_0, hcz56_1, hcz56_2, hcz56_3, hcz56_4, hcz56_5, hcz56_6, hcz56_7, hcz56_8, hfz56_0, hfz56_1, hfz56_2, hfz56_3, hfz56_4, hfz56_5, hfz56_6, hfz56_7, hfz56_8⟩ := cells9 BK465.out))
                          have n0_ : Aside0 (Kd.R k35 35 (w55.setCell ⟨gb465, 1, none⟩ (.int .i64 (wrap64 (((rd_T35 t453 x17_6).f1) + (x12_4.size : Int))))) w.heap.size (fun k_ => some k_ ≠ (v462 : Value).ownBlock ∧ k_ ≠ gb465) (.slice (some ad458) t453.length co23) t453) := ⟨by (with_reducible repeat (first | apply Kd.R_alloc | apply Kd.R_drewN | apply Kd.R_drew)); exact Kd.R_mono (Kd.R_far (p := ⟨gb465, 1, none⟩) (Kd.R_mono HO_7.out (fun k_ hk => (⟨hk, hk.2⟩ : _ ∧ k_ ≠ gb465))) (fun _ hk => hk.2) (.int .i64 (wrap64 (((rd_T35 t453 x17_6).f1) + (x12_4.size : Int))))) (fun _ hk => ⟨hk.1.1, hk.1.2⟩)⟩
                          have n1_ : Aside0 (Kd.R k35 35 (w55.setCell ⟨gb465, 1, none⟩ (.int .i64 (wrap64 (((rd_T35 t453 x17_6).f1) + (x12_4.size : Int))))) w.heap.size (fun k_ => some k_ ≠ (.slice (some ad458) t453.length co23 : Value).ownBlock ∧ k_ ≠ gb465) v462 t459) := ⟨by (with_reducible repeat (first | apply Kd.R_alloc | apply Kd.R_drewN | apply Kd.R_drew)); exact Kd.R_mono (Kd.R_far (p := ⟨gb465, 1, none⟩) (Kd.R_mono HO_14.out (fun k_ hk => (⟨hk, hk.2⟩ : _ ∧ k_ ≠ gb465))) (fun _ hk => hk.2) (.int .i64 (wrap64 (((rd_T35 t453 x17_6).f1) + (x12_4.size : Int))))) (fun _ hk => ⟨hk.1.1, hk.1.2⟩)⟩
                          have n2_ : Aside0 ((w55.setCell ⟨gb465, 1, none⟩ (.int .i64 (wrap64 (((rd_T35 t453 x17_6).f1) + (x12_4.size : Int))))).heap[gb465]? = some (.cells #[.int .i64 ((rd_T35 t453 x17_6).f0), .int .i64 (wrap64 (((rd_T35 t453 x17_6).f1) + (x12_4.size : Int))), .int .u64 ((rd_T35 t453 x17_6).f2.f0), .int .u64 ((rd_T35 t453 x17_6).f2.f1), .int .u64 ((rd_T35 t453 x17_6).f2.f2), .int .u64 ((rd_T35 t453 x17_6).f2.f3), .string ((rd_T35 t453 x17_6).f3), .int .i64 ((rd_T35 t453 x17_6).f4), .int .i64 ((rd_T35 t453 x17_6).f5)] 35 (0, 0))) := ⟨by (with_reducible repeat (first | refine blk_drewN ?_ _ | refine blk_drew ?_ | refine blk_alloc ?_ _)); refine blk_put (cs := #[.int .i64 ((rd_T35 t453 x17_6).f0), .int .i64 ((rd_T35 t453 x17_6).f1), .int .u64 ((rd_T35 t453 x17_6).f2.f0), .int .u64 ((rd_T35 t453 x17_6).f2.f1), .int .u64 ((rd_T35 t453 x17_6).f2.f2), .int .u64 ((rd_T35 t453 x17_6).f2.f3), .string ((rd_T35 t453 x17_6).f3), .int .i64 ((rd_T35 t453 x17_6).f4), .int .i64 ((rd_T35 t453 x17_6).f5)]) ?_ 1 _ rfl; (with_reducible repeat (first | refine blk_drewN ?_ _ | refine blk_drew ?_ | refine blk_alloc ?_ _)); exact BK465.out⟩
                          have n3_ : Aside0 (Below w.heap.size w (w55.setCell ⟨gb465, 1, none⟩ (.int .i64 (wrap64 (((rd_T35 t453 x17_6).f1) + (x12_4.size : Int)))))) := ⟨belx1 HB GE465⟩
                          (try clear HO_7)
                          (try clear HO_14)
                          (try clear BK465)
                          (try clear HB)
                          generalize (w55.setCell ⟨gb465, 1, none⟩ (.int .i64 (wrap64 (((rd_T35 t453 x17_6).f1) + (x12_4.size : Int))))) = w57 at n0_ n1_ n2_ n3_ ⊢
                          have HO_7 := n0_
                          have HO_14 := n1_
                          have BK465 := n2_
                          have HB := n3_
                          clear n0_ n1_ n2_ n3_
                          have n0_ := Aside0.mk (Kd.R_drew HO_7.out)
                          have n1_ := Aside0.mk (Kd.R_drew HO_14.out)
                          have n2_ := Aside0.mk (blk_drew BK465.out)
                          have n3_ := Aside0.mk (below_drew1 HB.out)
                          clear HO_7
                          clear HO_14
                          clear BK465
                          clear HB
                          have HO_7 := n0_
                          have HO_14 := n1_
                          have BK465 := n2_
                          have HB := n3_
                          clear n0_ n1_ n2_ n3_
                          obtain ⟨Ao59, co59, eo59⟩ := Kd.R_slice HO_14.out
                          (first | subst eo59 | (injection eo59 with f1_ f2_ f3_; have f4_ := f1_.symm; have f5_ := f3_.symm; clear f1_ f2_ f3_; subst f4_; subst f5_))
                          have p466 : 0 ≤ (x17_6 : Int) := odt
                          have q466 : x17_6 < (t459.length : Int) := odt
                          obtain ⟨ad466, e466, hx466_0, hx466_1, hx466_2, hx466_3, hx466_4, hx466_5, hx466_6, hx466_7, hx466_8⟩ := at_T35 (Kd.R_reads' HO_14.out).2.2 x17_6 p466 q466
                          cases e466
                          replace p466 := eq_true p466
                          replace q466 := eq_true q466
                          refine start_ (n := 6) (S := fun w' => w'.cell? ⟨gb465, 0, none⟩ = some (.int .i64 ((rd_T35 t453 x17_6).f0)) ∧ w'.cell? ⟨gb465, 1, none⟩ = some (.int .i64 (wrap64 (((rd_T35 t453 x17_6).f1) + (x12_4.size : Int)))) ∧ w'.cell? ⟨gb465, 2, none⟩ = some (.int .u64 ((rd_T35 t453 x17_6).f2.f0)) ∧ w'.cell? ⟨gb465, 3, none⟩ = some (.int .u64 ((rd_T35 t453 x17_6).f2.f1)) ∧ w'.cell? ⟨gb465, 4, none⟩ = some (.int .u64 ((rd_T35 t453 x17_6).f2.f2)) ∧ w'.cell? ⟨gb465, 5, none⟩ = some (.int .u64 ((rd_T35 t453 x17_6).f2.f3)) ∧ w'.cell? ⟨gb465, 6, none⟩ = some (.string ((rd_T35 t453 x17_6).f3)) ∧ w'.cell? ⟨gb465, 7, none⟩ = some (.int .i64 ((rd_T35 t453 x17_6).f4)) ∧ w'.cell? ⟨gb465, 8, none⟩ = some (.int .i64 ((rd_T35 t453 x17_6).f5)) ∧ w'.cell? (ad466.add ((x17_6).toNat * 9)) = some (.int .i64 ((rd_T35 t459 x17_6).f0)) ∧ w'.cell? ⟨(ad466.add ((x17_6).toNat * 9)).block, (ad466.add ((x17_6).toNat * 9)).off + 1, none⟩ = some (.int .i64 ((rd_T35 t459 x17_6).f1)) ∧ w'.cell? ⟨(ad466.add ((x17_6).toNat * 9)).block, (ad466.add ((x17_6).toNat * 9)).off + 2, none⟩ = some (.int .u64 ((rd_T35 t459 x17_6).f2.f0)) ∧ w'.cell? ⟨(ad466.add ((x17_6).toNat * 9)).block, (ad466.add ((x17_6).toNat * 9)).off + 3, none⟩ = some (.int .u64 ((rd_T35 t459 x17_6).f2.f1)) ∧ w'.cell? ⟨(ad466.add ((x17_6).toNat * 9)).block, (ad466.add ((x17_6).toNat * 9)).off + 4, none⟩ = some (.int .u64 ((rd_T35 t459 x17_6).f2.f2)) ∧ w'.cell? ⟨(ad466.add ((x17_6).toNat * 9)).block, (ad466.add ((x17_6).toNat * 9)).off + 5, none⟩ = some (.int .u64 ((rd_T35 t459 x17_6).f2.f3)) ∧ w'.cell? ⟨(ad466.add ((x17_6).toNat * 9)).block, (ad466.add ((x17_6).toNat * 9)).off + 6, none⟩ = some (.string ((rd_T35 t459 x17_6).f3)) ∧ w'.cell? ⟨(ad466.add ((x17_6).toNat * 9)).block, (ad466.add ((x17_6).toNat * 9)).off + 7, none⟩ = some (.int .i64 ((rd_T35 t459 x17_6).f4)) ∧ w'.cell? ⟨(ad466.add ((x17_6).toNat * 9)).block, (ad466.add ((x17_6).toNat * 9)).off + 8, none⟩ = some (.int .i64 ((rd_T35 t459 x17_6).f5))) (ds := []) #[false, false, false, false, false, false] (by kernel_rfl) rfl rfl ⟨(blk_cell BK465.out 0).trans rfl, (blk_cell BK465.out 1).trans rfl, (blk_cell BK465.out 2).trans rfl, (blk_cell BK465.out 3).trans rfl, (blk_cell BK465.out 4).trans rfl, (blk_cell BK465.out 5).trans rfl, (blk_cell BK465.out 6).trans rfl, (blk_cell BK465.out 7).trans rfl, (blk_cell BK465.out 8).trans rfl, hx466_0, hx466_1, hx466_2, hx466_3, hx466_4, hx466_5, hx466_6, hx466_7, hx466_8⟩ (fun hHeld => ?_)
                          generalize w57.drew = w58 at HO_7 HO_14 BK465 HB hx466_0 hx466_1 hx466_2 hx466_3 hx466_4 hx466_5 hx466_6 hx466_7 hx466_8 hHeld ⊢
                          refine pure_ (i := 0) (N := some 111) (v := ?_) (a' := ?_) #[true, false, false, false, false, false] rfl rfl (by kernel_rfl) (fun _ _ _ h => h) (Or.inl ⟨by rfl, ?_⟩) ?_ ?_
                          rotate_left
                          · intro w'
                            go_simp
                            with_reducible rfl
                          rotate_left
                          · simp only [Act.put, List.setIfInBounds_toArray, List.set_cons_zero, List.set_cons_succ, i64_w, i32_w]
                            rfl
                          refine pure_ (i := 1) (N := some 112) (v := ?_) (a' := ?_) #[true, true, false, false, false, false] rfl rfl (by kernel_rfl) (fun _ _ _ h => h) (Or.inl ⟨by rfl, ?_⟩) ?_ ?_
                          rotate_left
                          · intro w'
                            go_simp
                            with_reducible rfl
                          rotate_left
                          · simp only [Act.put, List.setIfInBounds_toArray, List.set_cons_zero, List.set_cons_succ, i64_w, i32_w]
                            rfl
                          refine pure_ (i := 2) (N := some 113) (v := ?_) (a' := ?_) #[true, true, true, false, false, false] rfl rfl (by kernel_rfl) (fun _ _ _ h => h) (Or.inl ⟨by rfl, ?_⟩) ?_ ?_
                          rotate_left
                          · intro w'
                            go_simp
                            with_reducible rfl
                          rotate_left
                          · simp only [Act.put, List.setIfInBounds_toArray, List.set_cons_zero, List.set_cons_succ, i64_w, i32_w]
                            rfl
                          refine take_ (i := 3) (N := some 114) (v := ?_) (a' := ?_) #[true, true, true, true, false, false] rfl rfl (by kernel_rfl) (fun _ _ _ h => h) (Or.inl ⟨by rfl, ?_⟩) hHeld ?_ ?_
                          rotate_left
                          · rintro w' ⟨s0, s1, s2, s3, s4, s5, s6, s7, s8, s9, s10, s11, s12, s13, s14, s15, s16, s17⟩
                            go_simp
                            with_reducible rfl
                          rotate_left
                          · simp only [Act.put, List.setIfInBounds_toArray, List.set_cons_zero, List.set_cons_succ, i64_w, i32_w]
                            rfl
                          refine take_ (i := 4) (N := some 115) (v := ?_) (a' := ?_) #[true, true, true, true, true, false] rfl rfl (by kernel_rfl) (fun _ _ _ h => h) (Or.inl ⟨by rfl, ?_⟩) hHeld ?_ ?_
                          rotate_left
                          · rintro w' ⟨s0, s1, s2, s3, s4, s5, s6, s7, s8, s9, s10, s11, s12, s13, s14, s15, s16, s17⟩
                            go_simp
                            with_reducible rfl
                          rotate_left
                          · simp only [Act.put, List.setIfInBounds_toArray, List.set_cons_zero, List.set_cons_succ, i64_w, i32_w]
                            rfl
                          refine pure_ (i := 5) (N := some 116) (v := ?_) (a' := ?_) #[true, true, true, true, true, true] rfl rfl (by kernel_rfl) (fun _ _ _ h => h) (Or.inl ⟨by rfl, ?_⟩) ?_ ?_
                          rotate_left
                          · intro w'
                            go_simp
                            with_reducible rfl
                          rotate_left
                          · simp only [Act.put, List.setIfInBounds_toArray, List.set_cons_zero, List.set_cons_succ, i64_w, i32_w]
                            rfl
                          refine done_ (by kernel_rfl) ?_
                          try go_wp2
                          go_roundg k6
                          case measure => have := HJ3.out; have := HJ12.out; have := HJ21.out; have := HK4.out; have := HJ34.out; have := HK6.out; omega
                          case rel => exact ⟨(wrap64 (x17_6 + 1)), (by first | rfl | (simp; done) | (simp [*]; done) | exact congrArg (Value.int .i64) (by unfold wrap64; omega)), (by first | exact H' | (subst_vars; exact H')), ⟨by have := HJ3.out; have := HJ12.out; have := HJ21.out; have := HK4.out; have := HJ34.out; have := HK6.out; omega⟩, ⟨by (with_reducible repeat (first | apply Kd.R_alloc | apply Kd.R_drewN | apply Kd.R_drew)); exact Kd.R_mono HO_7.out (fun _ hk => hk.1)⟩, ⟨by (with_reducible repeat (first | apply Kd.R_alloc | apply Kd.R_drewN | apply Kd.R_drew)); exact Kd.R_mono HO_14.out (fun _ hk => hk.1)⟩, ⟨belx1 HB GE465⟩⟩
def scantlinglaw03_LexSpaces.Pure : Prop := ∀ (a0 : ByteArray) (a1 : Int) (a2 : Int), a0.size ≤ 140737488351232 → (Lit.int .u8 a1).wf = true → (Lit.int .u8 a2).wf = true → ∃ k, scantlinglaw03_LexSpaces.f k a0 a1 a2 = some true
theorem scantlinglaw03_LexSpaces.walk (P : scantlinglaw03_LexSpaces.Pure) (a0 : ByteArray) (a1 : Int) (a2 : Int) (w : World) (hL_ : LaidW w) (w0 : a0.size ≤ 140737488351232) (w1 : (Lit.int .u8 a1).wf = true) (w2 : (Lit.int .u8 a2).wf = true) :
    Calls Tryd.prog 9 #[.string a0, .int .u8 a1, .int .u8 a2] w fun e w' => e = .returned (.bool true) ∧ Below w.heap.size w w' := by
  obtain ⟨k, h⟩ := P a0 a1 a2 w0 w1 w2
  refine (scantlinglaw03_LexSpaces.calls k a0 a1 a2 true w hL_ h).mono ?_
  rintro e w' ⟨rfl, hd⟩
  exact ⟨rfl, hd⟩
end Go.Proofs.YtepnbnpgifpfbaaDoor.G
