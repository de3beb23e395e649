/- Lemmas and walks of this claim: GScantlinglaw03LexRepeats. -/
import Derived.Test.YtepnbnpgifpfbaaDoorZKb
import Derived.Test.YtepnbnpgifpfbaaDoorZKf
import Derived.Test.YtepnbnpgifpfbaaDoorZGEAwake03
set_option linter.unusedVariables false
set_option linter.unusedSimpArgs false
namespace Go.Proofs.YtepnbnpgifpfbaaDoor.G
open Go.RowKit Go.Proofs.YtepnbnpgifpfbaaDoorW.PrintWords Go.Proofs.YtepnbnpgifpfbaaDoorW.PrintLast Go.Proofs.YtepnbnpgifpfbaaDoorW.PrintMore
attribute [local go_sem] max2_int min2_int max_two min_two max_three min_three max_four min_four
set_option linter.unusedVariables false
set_option linter.unusedSimpArgs false
attribute [local go_sem high] eqA35
mutual
def scantlinglaw03_LexRepeats.l0 : Nat → Int → Int → ByteArray → ByteArray → Int → Option (Bool)
  | 0, _, _, _, _, _ => none
  | k + 1, x0, x1, x5, x6, x7 => if x7 > 0 then ((some (([(wrap64 (48 + (Int.tmod x7 10))) % 256] : List Int) : List Int)).bind fun y416 => (if (strOfNums y416).size + x5.size ≤ 9223372036854775807 then (scantlinglaw03_LexRepeats.l0 k x0 x1 ((strOfNums y416) ++ x5) x6 (wrap64 (Int.tdiv x7 10))) else (none))) else (if x5.toList = ([] : List UInt8) then ((some (([(wrap64 (48 + (Int.tmod x7 10))) % 256] : List Int) : List Int)).bind fun y419 => (if (strOfNums y419).size + x5.size ≤ 9223372036854775807 then (scantlinglaw03_LexRepeats.l0 k x0 x1 ((strOfNums y419) ++ x5) x6 (wrap64 (Int.tdiv x7 10))) else (none))) else (scantlinglaw03_LexRepeats.l1 k x0 x1 x5 x6 (wrap64 (x1))))
def scantlinglaw03_LexRepeats.l1 : Nat → Int → Int → ByteArray → ByteArray → Int → Option (Bool)
  | 0, _, _, _, _, _ => none
  | k + 1, x0, x1, x5, x6, x8 => if x8 > 0 then ((some (([(wrap64 (48 + (Int.tmod x8 10))) % 256] : List Int) : List Int)).bind fun y422 => (if (strOfNums y422).size + x6.size ≤ 9223372036854775807 then (scantlinglaw03_LexRepeats.l1 k x0 x1 x5 ((strOfNums y422) ++ x6) (wrap64 (Int.tdiv x8 10))) else (none))) else (if x6.toList = ([] : List UInt8) then ((some (([(wrap64 (48 + (Int.tmod x8 10))) % 256] : List Int) : List Int)).bind fun y425 => (if (strOfNums y425).size + x6.size ≤ 9223372036854775807 then (scantlinglaw03_LexRepeats.l1 k x0 x1 x5 ((strOfNums y425) ++ x6) (wrap64 (Int.tdiv x8 10))) else (none))) else (if 2 + x5.size ≤ 9223372036854775807 then (if ((⟨#[46, 123]⟩ : ByteArray) ++ x5).size + 1 ≤ 9223372036854775807 then (if (((⟨#[46, 123]⟩ : ByteArray) ++ x5) ++ (⟨#[44]⟩ : ByteArray)).size + x6.size ≤ 9223372036854775807 then (if ((((⟨#[46, 123]⟩ : ByteArray) ++ x5) ++ (⟨#[44]⟩ : ByteArray)) ++ x6).size + 1 ≤ 9223372036854775807 then ((lex_Read.f k (((((⟨#[46, 123]⟩ : ByteArray) ++ x5) ++ (⟨#[44]⟩ : ByteArray)) ++ x6) ++ (⟨#[125]⟩ : ByteArray))).bind fun bt428 => (if 1 + x5.size ≤ 9223372036854775807 then (if ((⟨#[123]⟩ : ByteArray) ++ x5).size + 2 ≤ 9223372036854775807 then (if (((⟨#[123]⟩ : ByteArray) ++ x5) ++ (⟨#[44, 48]⟩ : ByteArray)).size + x6.size ≤ 9223372036854775807 then (if ((((⟨#[123]⟩ : ByteArray) ++ x5) ++ (⟨#[44, 48]⟩ : ByteArray)) ++ x6).size + 1 ≤ 9223372036854775807 then ((lex_Read.f k (((((⟨#[123]⟩ : ByteArray) ++ x5) ++ (⟨#[44, 48]⟩ : ByteArray)) ++ x6) ++ (⟨#[125]⟩ : ByteArray))).bind fun bt433 => (if bt433.2.1 = 4 then (scantlinglaw03_LexRepeats.j2 k x0 x1 bt428.1 bt428.2.1 bt428.2.2 (bt433.2.2 != 0)) else (scantlinglaw03_LexRepeats.j2 k x0 x1 bt428.1 bt428.2.1 bt428.2.2 true))) else (none)) else (none)) else (none)) else (none))) else (none)) else (none)) else (none)) else (none)))
def scantlinglaw03_LexRepeats.j2 : Nat → Int → Int → List (S35) → Int → Int → Bool → Option (Bool)
  | 0, _, _, _, _, _, _ => none
  | k + 1, x0, x1, x9, x10, x11, x80 => if x80 = true then (some false) else (if x0 > x1 then (if x10 = 5 then (if x11 = 1 then (some ((x9.length : Int) == 0)) else (some false)) else (some false)) else (if x1 > 255 then (if x10 = 5 then (if x11 = 1 then (some ((x9.length : Int) == 0)) else (some false)) else (some false)) else (if x10 = 0 then (if (x9.length : Int) = 3 then (if 1 < (x9.length : Int) then (some (((rd_T35 x9 1).f0) == 7 && (((rd_T35 x9 1).f1) == 1 && ((((rd_T35 x9 1).f2.f0) == 0 && (((rd_T35 x9 1).f2.f1) == 0 && (((rd_T35 x9 1).f2.f2) == 0 && (((rd_T35 x9 1).f2.f3) == 0)))) && ((((rd_T35 x9 1).f3).toList) == ([] : List UInt8) && (((rd_T35 x9 1).f4) == (wrap64 (x0)) && (((rd_T35 x9 1).f5) == (wrap64 (x1))))))))) else (none)) else (some false)) else (some false))))
end
def scantlinglaw03_LexRepeats.f (k : Nat) (a0 : Int) (a1 : Int) : Option (Bool) := (scantlinglaw03_awake.f).bind fun t415 => (if t415 = true then (scantlinglaw03_LexRepeats.l0 k a0 a1 (⟨#[]⟩ : ByteArray) (⟨#[]⟩ : ByteArray) (wrap64 (a0))) else (some false))
set_option maxHeartbeats 8000000 in
set_option maxRecDepth 100000 in
theorem scantlinglaw03_LexRepeats.calls (k : Nat) (a0 : Int) (a1 : Int) (r : Bool) (w : World) (hL_ : LaidW w) (h : scantlinglaw03_LexRepeats.f k a0 a1 = some r) :
    Calls Tryd.prog 7 #[.int .u16 a0, .int .u16 a1] w fun e w' => e = .returned (.bool r) ∧ Below w.heap.size w w' := by
  have hu35 := Tryd.underlying35
  have HB := Aside0.mk (Below.refl w.heap.size w)
  have H : ((scantlinglaw03_awake.f).bind fun t415 => (if t415 = true then (scantlinglaw03_LexRepeats.l0 k a0 a1 (⟨#[]⟩ : ByteArray) (⟨#[]⟩ : ByteArray) (wrap64 (a0))) else (some false))) = some r := h
  clear h
  replace H := Option.bind_eq_some_iff.mp H
  obtain ⟨t415, A30, H⟩ := H
  replace H : (if t415 = true then (scantlinglaw03_LexRepeats.l0 k a0 a1 (⟨#[]⟩ : ByteArray) (⟨#[]⟩ : ByteArray) (wrap64 (a0))) else (some false)) = some r := H
  have A3 := Aside0.mk A30
  clear A30
  by_cases c4 : t415 = true
  case neg =>
    replace c4 := Bool.eq_false_iff.mpr c4
    subst c4
    have H1 : (some false) = some r := by rw [if_neg (show ¬ (false = true) by decide)] at H; exact H
    clear H
    have H := H1
    clear H1
    obtain rfl := Option.some.inj H
    go_enter Tryd.func7, Tryd.ntmps7
    go_wp2_with (first | ((with_reducible refine gate_callee (f := 10) rfl ?_); refine goesL_ (some 15) rfl rfl Tryd.func10 (by kernel_rfl) rfl #[] rfl (by (try simp only [List.map_toArray, List.map_cons, List.map_nil]); first | done | rfl | (simp only [List.length_drop, List.length_take]; rfl)) ?_; (with_reducible refine (scantlinglaw03_awake.calls  false _ ?side1 A3.out).mono ?_); (case side1 => exact (by repeat (first | exact hL_ | apply LaidW.drewN | apply LaidW.drew | refine LaidW.below hL_ (belx HB)))); rintro e w54 ⟨rfl, hb⟩; refine ⟨_, rfl, ?_⟩; have n0_ := Aside0.mk (below_step (belx HB) hb); clear HB; have HB := n0_; clear n0_; (try clear hb); (try clear hb2); (try clear hk); (try clear hi)))
    go_ret
    exact ⟨by first | rfl | (simp [errW_none, errW_some] <;> rfl) | (simp [*, errW_none, errW_some] <;> rfl), belx HB⟩
  subst c4
  have H1 : (scantlinglaw03_LexRepeats.l0 k a0 a1 (⟨#[]⟩ : ByteArray) (⟨#[]⟩ : ByteArray) (wrap64 (a0))) = some r := by rw [if_pos rfl] at H; exact H
  clear H
  have H := H1
  clear H1
  have H' := Aside0.mk H
  clear H
  go_enter Tryd.func7, Tryd.ntmps7
  go_wp2_with (first | ((with_reducible refine gate_callee (f := 10) rfl ?_); refine goesL_ (some 15) rfl rfl Tryd.func10 (by kernel_rfl) rfl #[] rfl (by (try simp only [List.map_toArray, List.map_cons, List.map_nil]); first | done | rfl | (simp only [List.length_drop, List.length_take]; rfl)) ?_; (with_reducible refine (scantlinglaw03_awake.calls  true _ ?side1 A3.out).mono ?_); (case side1 => exact (by repeat (first | exact hL_ | apply LaidW.drewN | apply LaidW.drew | refine LaidW.below hL_ (belx HB)))); rintro e w5 ⟨rfl, hb⟩; refine ⟨_, rfl, ?_⟩; have n0_ := Aside0.mk (below_step (belx HB) hb); clear HB; have HB := n0_; clear n0_; (try clear hb); (try clear hb2); (try clear hk); (try clear hi)))
  go_loopg [5, 7] k (fun kq v5 v7 w' => ∃ (x5_1 : ByteArray) (x7_1 : Int), v5 = .string x5_1 ∧ v7 = .int .i64 x7_1 ∧ Aside0 (scantlinglaw03_LexRepeats.l0 kq a0 a1 x5_1 (⟨#[]⟩ : ByteArray) x7_1 = some r) ∧ Aside0 (kq ≤ k) ∧ Aside0 (Below w.heap.size w w'))
  case atStart => exact ⟨((⟨#[]⟩ : ByteArray)), (wrap64 (a0)), (by first | rfl | (simp; done) | (simp [*]; done) | exact congrArg (Value.int .i64) (by unfold wrap64; omega)), (by first | rfl | (simp; done) | (simp [*]; done) | exact congrArg (Value.int .i64) (by unfold wrap64; omega)), (by first | exact H' | (subst_vars; exact H')), ⟨Nat.le_refl _⟩, ⟨belx HB⟩⟩
  case round =>
    clear H'
    try clear c4
    obtain ⟨x5_1, x7_1, rfl, rfl, HA, HK1, HB⟩ := hrel
    cases gk with
    | zero => exact absurd HA.out (by simp [scantlinglaw03_LexRepeats.l0])
    | succ k1 =>
      have H := HA.out
      clear HA
      simp only [scantlinglaw03_LexRepeats.l0] at H
      by_cases c6 : x7_1 > 0
      case pos =>
        rw [if_pos c6] at H
        have c6b0 : decide (0 < x7_1) = true := decide_eq_true c6
        clear c6
        obtain ⟨y416, hy416⟩ : ∃ y_ : List Int, y_ = (([(wrap64 (48 + (Int.tmod x7_1 10))) % 256] : List Int)) := ⟨_, rfl⟩
        replace H : (if (strOfNums y416).size + x5_1.size ≤ 9223372036854775807 then (scantlinglaw03_LexRepeats.l0 k1 a0 a1 ((strOfNums y416) ++ x5_1) (⟨#[]⟩ : ByteArray) (wrap64 (Int.tdiv x7_1 10))) else (none)) = some r := by first | (rw [hy416]; with_reducible exact H) | (have H2_ := (Option.bind_some _ _).symm.trans H; rw [hy416]; with_reducible exact H2_) | (have H2_ := (Option.bind_some _ _).symm.trans H; with_reducible exact H2_) | with_reducible exact H | (rw [hy416]; exact H) | exact H
        have Ny416 := Aside0.mk hy416
        clear hy416
        by_cases c7 : (strOfNums y416).size + x5_1.size ≤ 9223372036854775807
        case neg => rw [if_neg c7] at H; exact absurd H (by simp)
        rw [if_pos c7] at H
        have c7b0 := eq_true c7
        have c7b1 : decide ((strOfNums y416).size + x5_1.size ≤ 9223372036854775807) = true := decide_eq_true c7
        try have c7b2 : (9223372036854775807 < (strOfNums y416).size + x5_1.size) = False := eq_false (Nat.not_lt.2 c7)
        have H' := Aside0.mk H
        clear H
        go_wp2_with (first | ((with_reducible refine gate_dst (N := 31) rfl ?_); (try (refine gate_guard (by rfl) ?_; dsimp only)); refine Kd.R_lit (Kd.int .u8) _ 5 ?hg (N := 31) ?hd (xs := ([(wrap64 (48 + (Int.tmod x7_1 10))) % 256] : List Int)) (inner := [.int .u8 ((wrap64 (48 + (Int.tmod x7_1 10))) % 256)]) (ok := fun _ => True) (okp := fun _ => True) ?hr ?hp (fun _ hk => hk) trivial (Below.refl _ _) (Nat.le_refl _) (by simp) ?_; (case hd => rfl); (case hg => rfl); (case hr => first | (go_simp; done) | (go_simp; rfl)); (case hp => exact (Reps.one (show Kd.M (Kd.int .u8) _ _ _ ((wrap64 (48 + (Int.tmod x7_1 10))) % 256) [.int .u8 ((wrap64 (48 + (Int.tmod x7_1 10))) % 256)] from rfl) (Reps.none _ _))); intro v417 w8 ho9 hb hg_ hnew_; clear hg_ hnew_; (first | rw [← Ny416.out] at ho9 | (simp only [Int.reduceToNat] at ho9; rw [← Ny416.out] at ho9)); have n0_ := Aside0.mk (Kd.R_lower ho9 (below_size (belx HB))); have n1_ := Aside0.mk (below_step (belx HB) hb); clear HB; have HO418 := n0_; have HB := n1_; clear n0_ n1_; clear hb ho9; have hcv10 := own_string (P := Tryd.prog) Tryd.underlying37 Tryd.underlying5 Tryd.underlying9 (Kd.own_of_R HO418.out)))
        go_roundg k1
        case measure => have := HK1.out; omega
        case rel => exact ⟨((strOfNums y416) ++ x5_1), (wrap64 (Int.tdiv x7_1 10)), (by first | rfl | (simp; done) | (simp [*]; done) | exact congrArg (Value.int .i64) (by unfold wrap64; omega)), (by first | rfl | (simp; done) | (simp [*]; done) | exact congrArg (Value.int .i64) (by unfold wrap64; omega)), (by first | exact H' | (subst_vars; exact H')), ⟨by have := HK1.out; omega⟩, ⟨belx HB⟩⟩
      rw [if_neg c6] at H
      have c6b0 : decide (0 < x7_1) = false := decide_eq_false c6
      clear c6
      by_cases c11 : x5_1.toList = ([] : List UInt8)
      case pos =>
        rw [if_pos c11] at H
        have c11b0 : (x5_1.toList == ([] : List UInt8)) = true := beq_iff_eq.mpr c11
        have c11b1 : (x5_1.toList != ([] : List UInt8)) = false := bne_eq_false_iff_eq.mpr c11
        clear c11
        obtain ⟨y419, hy419⟩ : ∃ y_ : List Int, y_ = (([(wrap64 (48 + (Int.tmod x7_1 10))) % 256] : List Int)) := ⟨_, rfl⟩
        replace H : (if (strOfNums y419).size + x5_1.size ≤ 9223372036854775807 then (scantlinglaw03_LexRepeats.l0 k1 a0 a1 ((strOfNums y419) ++ x5_1) (⟨#[]⟩ : ByteArray) (wrap64 (Int.tdiv x7_1 10))) else (none)) = some r := by first | (rw [hy419]; with_reducible exact H) | (have H2_ := (Option.bind_some _ _).symm.trans H; rw [hy419]; with_reducible exact H2_) | (have H2_ := (Option.bind_some _ _).symm.trans H; with_reducible exact H2_) | with_reducible exact H | (rw [hy419]; exact H) | exact H
        have Ny419 := Aside0.mk hy419
        clear hy419
        by_cases c12 : (strOfNums y419).size + x5_1.size ≤ 9223372036854775807
        case neg => rw [if_neg c12] at H; exact absurd H (by simp)
        rw [if_pos c12] at H
        have c12b0 := eq_true c12
        have c12b1 : decide ((strOfNums y419).size + x5_1.size ≤ 9223372036854775807) = true := decide_eq_true c12
        try have c12b2 : (9223372036854775807 < (strOfNums y419).size + x5_1.size) = False := eq_false (Nat.not_lt.2 c12)
        have H' := Aside0.mk H
        clear H
        go_wp2_with (first | ((with_reducible refine gate_dst (N := 31) rfl ?_); (try (refine gate_guard (by rfl) ?_; dsimp only)); refine Kd.R_lit (Kd.int .u8) _ 5 ?hg (N := 31) ?hd (xs := ([(wrap64 (48 + (Int.tmod x7_1 10))) % 256] : List Int)) (inner := [.int .u8 ((wrap64 (48 + (Int.tmod x7_1 10))) % 256)]) (ok := fun _ => True) (okp := fun _ => True) ?hr ?hp (fun _ hk => hk) trivial (Below.refl _ _) (Nat.le_refl _) (by simp) ?_; (case hd => rfl); (case hg => rfl); (case hr => first | (go_simp; done) | (go_simp; rfl)); (case hp => exact (Reps.one (show Kd.M (Kd.int .u8) _ _ _ ((wrap64 (48 + (Int.tmod x7_1 10))) % 256) [.int .u8 ((wrap64 (48 + (Int.tmod x7_1 10))) % 256)] from rfl) (Reps.none _ _))); intro v420 w13 ho14 hb hg_ hnew_; clear hg_ hnew_; (first | rw [← Ny419.out] at ho14 | (simp only [Int.reduceToNat] at ho14; rw [← Ny419.out] at ho14)); have n0_ := Aside0.mk (Kd.R_lower ho14 (below_size (belx HB))); have n1_ := Aside0.mk (below_step (belx HB) hb); clear HB; have HO421 := n0_; have HB := n1_; clear n0_ n1_; clear hb ho14; have hcv15 := own_string (P := Tryd.prog) Tryd.underlying37 Tryd.underlying5 Tryd.underlying9 (Kd.own_of_R HO421.out)))
        go_roundg k1
        case measure => have := HK1.out; omega
        case rel => exact ⟨((strOfNums y419) ++ x5_1), (wrap64 (Int.tdiv x7_1 10)), (by first | rfl | (simp; done) | (simp [*]; done) | exact congrArg (Value.int .i64) (by unfold wrap64; omega)), (by first | rfl | (simp; done) | (simp [*]; done) | exact congrArg (Value.int .i64) (by unfold wrap64; omega)), (by first | exact H' | (subst_vars; exact H')), ⟨by have := HK1.out; omega⟩, ⟨belx HB⟩⟩
      rw [if_neg c11] at H
      have c11b0 : (x5_1.toList == ([] : List UInt8)) = false := beq_eq_false_iff_ne.mpr c11
      have c11b1 : (x5_1.toList != ([] : List UInt8)) = true := bne_iff_ne.mpr c11
      have H' := Aside0.mk H
      clear H
      go_wp2
      go_loopg [6, 8] k1 (fun kq v6 v8 w' => ∃ (x6_2 : ByteArray) (x8_2 : Int), v6 = .string x6_2 ∧ v8 = .int .i64 x8_2 ∧ Aside0 (scantlinglaw03_LexRepeats.l1 kq a0 a1 x5_1 x6_2 x8_2 = some r) ∧ Aside0 (kq ≤ k1) ∧ Aside0 (Below w.heap.size w w'))
      case atStart => exact ⟨((⟨#[]⟩ : ByteArray)), (wrap64 (a1)), (by first | rfl | (simp; done) | (simp [*]; done) | exact congrArg (Value.int .i64) (by unfold wrap64; omega)), (by first | rfl | (simp; done) | (simp [*]; done) | exact congrArg (Value.int .i64) (by unfold wrap64; omega)), (by first | exact H' | (subst_vars; exact H')), ⟨Nat.le_refl _⟩, ⟨belx HB⟩⟩
      case round =>
        clear H'
        try clear c4; try clear c6; try clear c6b0; try clear c11; try clear c11b0; try clear c11b1
        obtain ⟨x6_2, x8_2, rfl, rfl, HA, HK2, HB⟩ := hrel
        cases gk with
        | zero => exact absurd HA.out (by simp [scantlinglaw03_LexRepeats.l1])
        | succ k2 =>
          have H := HA.out
          clear HA
          simp only [scantlinglaw03_LexRepeats.l1] at H
          by_cases c16 : x8_2 > 0
          case pos =>
            rw [if_pos c16] at H
            have c16b0 : decide (0 < x8_2) = true := decide_eq_true c16
            clear c16
            obtain ⟨y422, hy422⟩ : ∃ y_ : List Int, y_ = (([(wrap64 (48 + (Int.tmod x8_2 10))) % 256] : List Int)) := ⟨_, rfl⟩
            replace H : (if (strOfNums y422).size + x6_2.size ≤ 9223372036854775807 then (scantlinglaw03_LexRepeats.l1 k2 a0 a1 x5_1 ((strOfNums y422) ++ x6_2) (wrap64 (Int.tdiv x8_2 10))) else (none)) = some r := by first | (rw [hy422]; with_reducible exact H) | (have H2_ := (Option.bind_some _ _).symm.trans H; rw [hy422]; with_reducible exact H2_) | (have H2_ := (Option.bind_some _ _).symm.trans H; with_reducible exact H2_) | with_reducible exact H | (rw [hy422]; exact H) | exact H
            have Ny422 := Aside0.mk hy422
            clear hy422
            by_cases c17 : (strOfNums y422).size + x6_2.size ≤ 9223372036854775807
            case neg => rw [if_neg c17] at H; exact absurd H (by simp)
            rw [if_pos c17] at H
            have c17b0 := eq_true c17
            have c17b1 : decide ((strOfNums y422).size + x6_2.size ≤ 9223372036854775807) = true := decide_eq_true c17
            try have c17b2 : (9223372036854775807 < (strOfNums y422).size + x6_2.size) = False := eq_false (Nat.not_lt.2 c17)
            have H' := Aside0.mk H
            clear H
            go_wp2_with (first | ((with_reducible refine gate_dst (N := 49) rfl ?_); (try (refine gate_guard (by rfl) ?_; dsimp only)); refine Kd.R_lit (Kd.int .u8) _ 5 ?hg (N := 49) ?hd (xs := ([(wrap64 (48 + (Int.tmod x8_2 10))) % 256] : List Int)) (inner := [.int .u8 ((wrap64 (48 + (Int.tmod x8_2 10))) % 256)]) (ok := fun _ => True) (okp := fun _ => True) ?hr ?hp (fun _ hk => hk) trivial (Below.refl _ _) (Nat.le_refl _) (by simp) ?_; (case hd => rfl); (case hg => rfl); (case hr => first | (go_simp; done) | (go_simp; rfl)); (case hp => exact (Reps.one (show Kd.M (Kd.int .u8) _ _ _ ((wrap64 (48 + (Int.tmod x8_2 10))) % 256) [.int .u8 ((wrap64 (48 + (Int.tmod x8_2 10))) % 256)] from rfl) (Reps.none _ _))); intro v423 w18 ho19 hb hg_ hnew_; clear hg_ hnew_; (first | rw [← Ny422.out] at ho19 | (simp only [Int.reduceToNat] at ho19; rw [← Ny422.out] at ho19)); have n0_ := Aside0.mk (Kd.R_lower ho19 (below_size (belx HB))); have n1_ := Aside0.mk (below_step (belx HB) hb); clear HB; have HO424 := n0_; have HB := n1_; clear n0_ n1_; clear hb ho19; have hcv20 := own_string (P := Tryd.prog) Tryd.underlying37 Tryd.underlying5 Tryd.underlying9 (Kd.own_of_R HO424.out)))
            go_roundg k2
            case measure => have := HK1.out; have := HK2.out; omega
            case rel => exact ⟨((strOfNums y422) ++ x6_2), (wrap64 (Int.tdiv x8_2 10)), (by first | rfl | (simp; done) | (simp [*]; done) | exact congrArg (Value.int .i64) (by unfold wrap64; omega)), (by first | rfl | (simp; done) | (simp [*]; done) | exact congrArg (Value.int .i64) (by unfold wrap64; omega)), (by first | exact H' | (subst_vars; exact H')), ⟨by have := HK1.out; have := HK2.out; omega⟩, ⟨belx HB⟩⟩
          rw [if_neg c16] at H
          have c16b0 : decide (0 < x8_2) = false := decide_eq_false c16
          clear c16
          by_cases c21 : x6_2.toList = ([] : List UInt8)
          case pos =>
            rw [if_pos c21] at H
            have c21b0 : (x6_2.toList == ([] : List UInt8)) = true := beq_iff_eq.mpr c21
            have c21b1 : (x6_2.toList != ([] : List UInt8)) = false := bne_eq_false_iff_eq.mpr c21
            clear c21
            obtain ⟨y425, hy425⟩ : ∃ y_ : List Int, y_ = (([(wrap64 (48 + (Int.tmod x8_2 10))) % 256] : List Int)) := ⟨_, rfl⟩
            replace H : (if (strOfNums y425).size + x6_2.size ≤ 9223372036854775807 then (scantlinglaw03_LexRepeats.l1 k2 a0 a1 x5_1 ((strOfNums y425) ++ x6_2) (wrap64 (Int.tdiv x8_2 10))) else (none)) = some r := by first | (rw [hy425]; with_reducible exact H) | (have H2_ := (Option.bind_some _ _).symm.trans H; rw [hy425]; with_reducible exact H2_) | (have H2_ := (Option.bind_some _ _).symm.trans H; with_reducible exact H2_) | with_reducible exact H | (rw [hy425]; exact H) | exact H
            have Ny425 := Aside0.mk hy425
            clear hy425
            by_cases c22 : (strOfNums y425).size + x6_2.size ≤ 9223372036854775807
            case neg => rw [if_neg c22] at H; exact absurd H (by simp)
            rw [if_pos c22] at H
            have c22b0 := eq_true c22
            have c22b1 : decide ((strOfNums y425).size + x6_2.size ≤ 9223372036854775807) = true := decide_eq_true c22
            try have c22b2 : (9223372036854775807 < (strOfNums y425).size + x6_2.size) = False := eq_false (Nat.not_lt.2 c22)
            have H' := Aside0.mk H
            clear H
            go_wp2_with (first | ((with_reducible refine gate_dst (N := 49) rfl ?_); (try (refine gate_guard (by rfl) ?_; dsimp only)); refine Kd.R_lit (Kd.int .u8) _ 5 ?hg (N := 49) ?hd (xs := ([(wrap64 (48 + (Int.tmod x8_2 10))) % 256] : List Int)) (inner := [.int .u8 ((wrap64 (48 + (Int.tmod x8_2 10))) % 256)]) (ok := fun _ => True) (okp := fun _ => True) ?hr ?hp (fun _ hk => hk) trivial (Below.refl _ _) (Nat.le_refl _) (by simp) ?_; (case hd => rfl); (case hg => rfl); (case hr => first | (go_simp; done) | (go_simp; rfl)); (case hp => exact (Reps.one (show Kd.M (Kd.int .u8) _ _ _ ((wrap64 (48 + (Int.tmod x8_2 10))) % 256) [.int .u8 ((wrap64 (48 + (Int.tmod x8_2 10))) % 256)] from rfl) (Reps.none _ _))); intro v426 w23 ho24 hb hg_ hnew_; clear hg_ hnew_; (first | rw [← Ny425.out] at ho24 | (simp only [Int.reduceToNat] at ho24; rw [← Ny425.out] at ho24)); have n0_ := Aside0.mk (Kd.R_lower ho24 (below_size (belx HB))); have n1_ := Aside0.mk (below_step (belx HB) hb); clear HB; have HO427 := n0_; have HB := n1_; clear n0_ n1_; clear hb ho24; have hcv25 := own_string (P := Tryd.prog) Tryd.underlying37 Tryd.underlying5 Tryd.underlying9 (Kd.own_of_R HO427.out)))
            go_roundg k2
            case measure => have := HK1.out; have := HK2.out; omega
            case rel => exact ⟨((strOfNums y425) ++ x6_2), (wrap64 (Int.tdiv x8_2 10)), (by first | rfl | (simp; done) | (simp [*]; done) | exact congrArg (Value.int .i64) (by unfold wrap64; omega)), (by first | rfl | (simp; done) | (simp [*]; done) | exact congrArg (Value.int .i64) (by unfold wrap64; omega)), (by first | exact H' | (subst_vars; exact H')), ⟨by have := HK1.out; have := HK2.out; omega⟩, ⟨belx HB⟩⟩
          rw [if_neg c21] at H
          have c21b0 : (x6_2.toList == ([] : List UInt8)) = false := beq_eq_false_iff_ne.mpr c21
          have c21b1 : (x6_2.toList != ([] : List UInt8)) = true := bne_iff_ne.mpr c21
          by_cases c26 : 2 + x5_1.size ≤ 9223372036854775807
          case neg => rw [if_neg c26] at H; exact absurd H (by simp)
          rw [if_pos c26] at H
          have c26b0 := eq_true c26
          have c26b1 : decide (2 + x5_1.size ≤ 9223372036854775807) = true := decide_eq_true c26
          try have c26b2 : (9223372036854775807 < 2 + x5_1.size) = False := eq_false (Nat.not_lt.2 c26)
          by_cases c27 : ((⟨#[46, 123]⟩ : ByteArray) ++ x5_1).size + 1 ≤ 9223372036854775807
          case neg => rw [if_neg c27] at H; exact absurd H (by simp)
          rw [if_pos c27] at H
          have c27b0 := eq_true c27
          have c27b1 : decide (((⟨#[46, 123]⟩ : ByteArray) ++ x5_1).size + 1 ≤ 9223372036854775807) = true := decide_eq_true c27
          try have c27b2 : (9223372036854775807 < ((⟨#[46, 123]⟩ : ByteArray) ++ x5_1).size + 1) = False := eq_false (Nat.not_lt.2 c27)
          have c27n : 2 + x5_1.size + 1 ≤ 9223372036854775807 := by have h_ := c27; simp only [ByteArray.size_append] at h_; exact h_
          have c27n2 : (9223372036854775807 < 2 + x5_1.size + 1) = False := eq_false (Nat.not_lt.2 c27n)
          by_cases c28 : (((⟨#[46, 123]⟩ : ByteArray) ++ x5_1) ++ (⟨#[44]⟩ : ByteArray)).size + x6_2.size ≤ 9223372036854775807
          case neg => rw [if_neg c28] at H; exact absurd H (by simp)
          rw [if_pos c28] at H
          have c28b0 := eq_true c28
          have c28b1 : decide ((((⟨#[46, 123]⟩ : ByteArray) ++ x5_1) ++ (⟨#[44]⟩ : ByteArray)).size + x6_2.size ≤ 9223372036854775807) = true := decide_eq_true c28
          try have c28b2 : (9223372036854775807 < (((⟨#[46, 123]⟩ : ByteArray) ++ x5_1) ++ (⟨#[44]⟩ : ByteArray)).size + x6_2.size) = False := eq_false (Nat.not_lt.2 c28)
          have c28n : 2 + x5_1.size + 1 + x6_2.size ≤ 9223372036854775807 := by have h_ := c28; simp only [ByteArray.size_append] at h_; exact h_
          have c28n2 : (9223372036854775807 < 2 + x5_1.size + 1 + x6_2.size) = False := eq_false (Nat.not_lt.2 c28n)
          by_cases c29 : ((((⟨#[46, 123]⟩ : ByteArray) ++ x5_1) ++ (⟨#[44]⟩ : ByteArray)) ++ x6_2).size + 1 ≤ 9223372036854775807
          case neg => rw [if_neg c29] at H; exact absurd H (by simp)
          rw [if_pos c29] at H
          have c29b0 := eq_true c29
          have c29b1 : decide (((((⟨#[46, 123]⟩ : ByteArray) ++ x5_1) ++ (⟨#[44]⟩ : ByteArray)) ++ x6_2).size + 1 ≤ 9223372036854775807) = true := decide_eq_true c29
          try have c29b2 : (9223372036854775807 < ((((⟨#[46, 123]⟩ : ByteArray) ++ x5_1) ++ (⟨#[44]⟩ : ByteArray)) ++ x6_2).size + 1) = False := eq_false (Nat.not_lt.2 c29)
          have c29n : 2 + x5_1.size + 1 + x6_2.size + 1 ≤ 9223372036854775807 := by have h_ := c29; simp only [ByteArray.size_append] at h_; exact h_
          have c29n2 : (9223372036854775807 < 2 + x5_1.size + 1 + x6_2.size + 1) = False := eq_false (Nat.not_lt.2 c29n)
          replace H := Option.bind_eq_some_iff.mp H
          obtain ⟨⟨t428, t429, t430⟩, A300, H⟩ := H
          replace H : (if 1 + x5_1.size ≤ 9223372036854775807 then (if ((⟨#[123]⟩ : ByteArray) ++ x5_1).size + 2 ≤ 9223372036854775807 then (if (((⟨#[123]⟩ : ByteArray) ++ x5_1) ++ (⟨#[44, 48]⟩ : ByteArray)).size + x6_2.size ≤ 9223372036854775807 then (if ((((⟨#[123]⟩ : ByteArray) ++ x5_1) ++ (⟨#[44, 48]⟩ : ByteArray)) ++ x6_2).size + 1 ≤ 9223372036854775807 then ((lex_Read.f k2 (((((⟨#[123]⟩ : ByteArray) ++ x5_1) ++ (⟨#[44, 48]⟩ : ByteArray)) ++ x6_2) ++ (⟨#[125]⟩ : ByteArray))).bind fun bt433 => (if bt433.2.1 = 4 then (scantlinglaw03_LexRepeats.j2 k2 a0 a1 t428 t429 t430 (bt433.2.2 != 0)) else (scantlinglaw03_LexRepeats.j2 k2 a0 a1 t428 t429 t430 true))) else (none)) else (none)) else (none)) else (none)) = some r := H
          have A30 := Aside0.mk A300
          clear A300
          by_cases c31 : 1 + x5_1.size ≤ 9223372036854775807
          case neg => rw [if_neg c31] at H; exact absurd H (by simp)
          rw [if_pos c31] at H
          have c31b0 := eq_true c31
          have c31b1 : decide (1 + x5_1.size ≤ 9223372036854775807) = true := decide_eq_true c31
          try have c31b2 : (9223372036854775807 < 1 + x5_1.size) = False := eq_false (Nat.not_lt.2 c31)
          by_cases c32 : ((⟨#[123]⟩ : ByteArray) ++ x5_1).size + 2 ≤ 9223372036854775807
          case neg => rw [if_neg c32] at H; exact absurd H (by simp)
          rw [if_pos c32] at H
          have c32b0 := eq_true c32
          have c32b1 : decide (((⟨#[123]⟩ : ByteArray) ++ x5_1).size + 2 ≤ 9223372036854775807) = true := decide_eq_true c32
          try have c32b2 : (9223372036854775807 < ((⟨#[123]⟩ : ByteArray) ++ x5_1).size + 2) = False := eq_false (Nat.not_lt.2 c32)
          have c32n : 1 + x5_1.size + 2 ≤ 9223372036854775807 := by have h_ := c32; simp only [ByteArray.size_append] at h_; exact h_
          have c32n2 : (9223372036854775807 < 1 + x5_1.size + 2) = False := eq_false (Nat.not_lt.2 c32n)
          by_cases c33 : (((⟨#[123]⟩ : ByteArray) ++ x5_1) ++ (⟨#[44, 48]⟩ : ByteArray)).size + x6_2.size ≤ 9223372036854775807
          case neg => rw [if_neg c33] at H; exact absurd H (by simp)
          rw [if_pos c33] at H
          have c33b0 := eq_true c33
          have c33b1 : decide ((((⟨#[123]⟩ : ByteArray) ++ x5_1) ++ (⟨#[44, 48]⟩ : ByteArray)).size + x6_2.size ≤ 9223372036854775807) = true := decide_eq_true c33
          try have c33b2 : (9223372036854775807 < (((⟨#[123]⟩ : ByteArray) ++ x5_1) ++ (⟨#[44, 48]⟩ : ByteArray)).size + x6_2.size) = False := eq_false (Nat.not_lt.2 c33)
          have c33n : 1 + x5_1.size + 2 + x6_2.size ≤ 9223372036854775807 := by have h_ := c33; simp only [ByteArray.size_append] at h_; exact h_
          have c33n2 : (9223372036854775807 < 1 + x5_1.size + 2 + x6_2.size) = False := eq_false (Nat.not_lt.2 c33n)
          by_cases c34 : ((((⟨#[123]⟩ : ByteArray) ++ x5_1) ++ (⟨#[44, 48]⟩ : ByteArray)) ++ x6_2).size + 1 ≤ 9223372036854775807
          case neg => rw [if_neg c34] at H; exact absurd H (by simp)
          rw [if_pos c34] at H
          have c34b0 := eq_true c34
          have c34b1 : decide (((((⟨#[123]⟩ : ByteArray) ++ x5_1) ++ (⟨#[44, 48]⟩ : ByteArray)) ++ x6_2).size + 1 ≤ 9223372036854775807) = true := decide_eq_true c34
          try have c34b2 : (9223372036854775807 < ((((⟨#[123]⟩ : ByteArray) ++ x5_1) ++ (⟨#[44, 48]⟩ : ByteArray)) ++ x6_2).size + 1) = False := eq_false (Nat.not_lt.2 c34)
          have c34n : 1 + x5_1.size + 2 + x6_2.size + 1 ≤ 9223372036854775807 := by have h_ := c34; simp only [ByteArray.size_append] at h_; exact h_
          have c34n2 : (9223372036854775807 < 1 + x5_1.size + 2 + x6_2.size + 1) = False := eq_false (Nat.not_lt.2 c34n)
          replace H := Option.bind_eq_some_iff.mp H
          obtain ⟨⟨t433, t434, t435⟩, A350, H⟩ := H
          replace H : (if t434 = 4 then (scantlinglaw03_LexRepeats.j2 k2 a0 a1 t428 t429 t430 (t435 != 0)) else (scantlinglaw03_LexRepeats.j2 k2 a0 a1 t428 t429 t430 true)) = some r := H
          have A35 := Aside0.mk A350
          clear A350
          have HC36 := Aside0.mk H
          clear H
          go_upto_region 15 with (first | ((with_reducible refine gate_callee (f := 11) rfl ?_); refine goesL_ (some 60) rfl rfl Tryd.func11 (by kernel_rfl) rfl #[.string (((((⟨#[46, 123]⟩ : ByteArray) ++ x5_1) ++ (⟨#[44]⟩ : ByteArray)) ++ x6_2) ++ (⟨#[125]⟩ : ByteArray))] rfl (by (try simp only [List.map_toArray, List.map_cons, List.map_nil]); first | done | rfl | (simp only [List.length_drop, List.length_take]; rfl)) ?_; (with_reducible refine (lex_Read.calls k2 (((((⟨#[46, 123]⟩ : ByteArray) ++ x5_1) ++ (⟨#[44]⟩ : ByteArray)) ++ x6_2) ++ (⟨#[125]⟩ : ByteArray)) t428 t429 t430 _ ?side1 A30.out).mono ?_); (case side1 => exact (by repeat (first | exact hL_ | apply LaidW.drewN | apply LaidW.drew | refine LaidW.below hL_ (belx HB)))); rintro e w37 ⟨v431, rfl, ho0, hb⟩; refine ⟨_, rfl, ?_⟩; have n0_ := Aside0.mk (Kd.R_lower ho0 (below_size (belx HB))); have n1_ := Aside0.mk (below_step (belx HB) hb); clear HB; have HO432 := n0_; have HB := n1_; clear n0_ n1_; (try clear hb); (try clear hb2); (try clear hk); (try clear hi); (try clear ho0)) | ((with_reducible refine gate_callee (f := 11) rfl ?_); refine goesL_ (some 71) rfl rfl Tryd.func11 (by kernel_rfl) rfl #[.string (((((⟨#[123]⟩ : ByteArray) ++ x5_1) ++ (⟨#[44, 48]⟩ : ByteArray)) ++ x6_2) ++ (⟨#[125]⟩ : ByteArray))] rfl (by (try simp only [List.map_toArray, List.map_cons, List.map_nil]); first | done | rfl | (simp only [List.length_drop, List.length_take]; rfl)) ?_; (with_reducible refine (lex_Read.calls k2 (((((⟨#[123]⟩ : ByteArray) ++ x5_1) ++ (⟨#[44, 48]⟩ : ByteArray)) ++ x6_2) ++ (⟨#[125]⟩ : ByteArray)) t433 t434 t435 _ ?side1 A35.out).mono ?_); (case side1 => exact (by repeat (first | exact hL_ | apply LaidW.drewN | apply LaidW.drew | refine LaidW.below hL_ (belx HB)))); rintro e w38 ⟨v436, rfl, ho0, hb⟩; refine ⟨_, rfl, ?_⟩; have n0_ := Aside0.mk (Kd.R_elder' (by (with_reducible repeat (first | apply Kd.R_alloc | apply Kd.R_drewN | apply Kd.R_drew)); exact HO432.out) (Kd.R_base ho0) hb); have n1_ := Aside0.mk (Kd.R_lower (Kd.R_new' ho0 (Kd.R_lt (by (with_reducible repeat (first | apply Kd.R_alloc | apply Kd.R_drewN | apply Kd.R_drew)); exact HO432.out))) (below_size (belx HB))); have n2_ := Aside0.mk (below_step (belx HB) hb); clear HO432; clear HB; have HO432 := n0_; have HO437 := n1_; have HB := n2_; clear n0_ n1_ n2_; (try clear hb); (try clear hb2); (try clear hk); (try clear hi); (try clear ho0)))
          (try simp only [Act.put, List.setIfInBounds_toArray, List.set_cons_zero, List.set_cons_succ])
          go_cut [80] (fun v80 wc => ∃ (kq : Nat) (x80_35 : Bool), v80 = .bool x80_35 ∧ Aside0 (scantlinglaw03_LexRepeats.j2 kq a0 a1 t428 t429 t430 x80_35 = some r) ∧ Aside0 (kq ≤ k2) ∧ Aside0 (Kd.R k35 35 wc w.heap.size (fun _ => True) v431 t428) ∧ Aside0 (Below w.heap.size w wc))
          case first =>
            have H := HC36.out
            clear HC36
            by_cases c39 : t434 = 4
            · rw [if_pos c39] at H
              have c39b0 : (t434 == 4) = true := beq_iff_eq.mpr c39
              have c39b1 : (t434 != 4) = false := bne_eq_false_iff_eq.mpr c39
              clear c39
              (first | rw [c39b0] | (simp only [i64_w, i32_w]; rw [c39b0]) | skip)
              have H' := Aside0.mk H
              clear H
              go_wp2
              go_meet
              case rel => exact ⟨_, ((t435 != 0)), (by first | rfl | (simp; done) | (simp [*]; done) | exact congrArg (Value.int .i64) (by unfold wrap64; omega)), (by first | exact H' | (subst_vars; exact H')), ⟨by have := HK1.out; have := HK2.out; first | omega | exact Nat.le_refl _⟩, ⟨by (with_reducible repeat (first | apply Kd.R_alloc | apply Kd.R_drewN | apply Kd.R_drew)); exact Kd.R_mono HO432.out (fun _ hk => trivial)⟩, ⟨belx HB⟩⟩
            · rw [if_neg c39] at H
              have c39b0 : (t434 == 4) = false := beq_eq_false_iff_ne.mpr c39
              have c39b1 : (t434 != 4) = true := bne_iff_ne.mpr c39
              (first | rw [c39b0] | (simp only [i64_w, i32_w]; rw [c39b0]) | skip)
              have H' := Aside0.mk H
              clear H
              go_wp2
              go_meet
              case rel => exact ⟨_, (true), (by first | rfl | (simp; done) | (simp [*]; done) | exact congrArg (Value.int .i64) (by unfold wrap64; omega)), (by first | exact H' | (subst_vars; exact H')), ⟨by have := HK1.out; have := HK2.out; first | omega | exact Nat.le_refl _⟩, ⟨by (with_reducible repeat (first | apply Kd.R_alloc | apply Kd.R_drewN | apply Kd.R_drew)); exact Kd.R_mono HO432.out (fun _ hk => trivial)⟩, ⟨belx HB⟩⟩
          case rest =>
            clear HC36
            try clear c4; try clear c6; try clear c6b0; try clear c11; try clear c11b0; try clear c11b1; try clear c16; try clear c16b0; try clear c21; try clear c21b0; try clear c21b1; try clear c26; try clear c26b0; try clear c26b1; try clear c26b2; try clear c27; try clear c27b0; try clear c27b1; try clear c27b2; try clear c28; try clear c28b0; try clear c28b1; try clear c28b2; try clear c29; try clear c29b0; try clear c29b1; try clear c29b2; try clear c31; try clear c31b0; try clear c31b1; try clear c31b2; try clear c32; try clear c32b0; try clear c32b1; try clear c32b2; try clear c33; try clear c33b0; try clear c33b1; try clear c33b2; try clear c34; try clear c34b0; try clear c34b1; try clear c34b2
            obtain ⟨kq, x80_35, rfl, HA, HJ35, HO_9, HB⟩ := hcut
            cases kq with
            | zero => exact absurd HA.out (by simp [scantlinglaw03_LexRepeats.j2])
            | succ kj35 =>
              have H := HA.out
              clear HA
              simp only [scantlinglaw03_LexRepeats.j2] at H
              by_cases c40 : x80_35 = true
              case pos =>
                subst c40
                have H1 : (some false) = some r := by rw [if_pos rfl] at H; exact H
                clear H
                have H := H1
                clear H1
                obtain rfl := Option.some.inj H
                go_wp2
                go_ret
                exact ⟨by first | rfl | (simp [errW_none, errW_some] <;> rfl) | (simp [*, errW_none, errW_some] <;> rfl), belx HB⟩
              replace c40 := Bool.eq_false_iff.mpr c40
              subst c40
              have H1 : (if a0 > a1 then (if t429 = 5 then (if t430 = 1 then (some ((t428.length : Int) == 0)) else (some false)) else (some false)) else (if a1 > 255 then (if t429 = 5 then (if t430 = 1 then (some ((t428.length : Int) == 0)) else (some false)) else (some false)) else (if t429 = 0 then (if (t428.length : Int) = 3 then (if 1 < (t428.length : Int) then (some (((rd_T35 t428 1).f0) == 7 && (((rd_T35 t428 1).f1) == 1 && ((((rd_T35 t428 1).f2.f0) == 0 && (((rd_T35 t428 1).f2.f1) == 0 && (((rd_T35 t428 1).f2.f2) == 0 && (((rd_T35 t428 1).f2.f3) == 0)))) && ((((rd_T35 t428 1).f3).toList) == ([] : List UInt8) && (((rd_T35 t428 1).f4) == (wrap64 (a0)) && (((rd_T35 t428 1).f5) == (wrap64 (a1))))))))) else (none)) else (some false)) else (some false)))) = some r := by rw [if_neg (show ¬ (false = true) by decide)] at H; exact H
              clear H
              have H := H1
              clear H1
              by_cases c41 : a0 > a1
              case pos =>
                rw [if_pos c41] at H
                have c41b0 : decide (a1 < a0) = true := decide_eq_true c41
                clear c41
                by_cases c42 : t429 = 5
                case neg =>
                  rw [if_neg c42] at H
                  have c42b0 : (t429 == 5) = false := beq_eq_false_iff_ne.mpr c42
                  have c42b1 : (t429 != 5) = true := bne_iff_ne.mpr c42
                  obtain rfl := Option.some.inj H
                  go_wp2
                  go_ret
                  exact ⟨by first | rfl | (simp [errW_none, errW_some] <;> rfl) | (simp [*, errW_none, errW_some] <;> rfl), belx HB⟩
                rw [if_pos c42] at H
                have c42b0 : (t429 == 5) = true := beq_iff_eq.mpr c42
                have c42b1 : (t429 != 5) = false := bne_eq_false_iff_eq.mpr c42
                clear c42
                by_cases c43 : t430 = 1
                case neg =>
                  rw [if_neg c43] at H
                  have c43b0 : (t430 == 1) = false := beq_eq_false_iff_ne.mpr c43
                  have c43b1 : (t430 != 1) = true := bne_iff_ne.mpr c43
                  obtain rfl := Option.some.inj H
                  go_wp2
                  go_ret
                  exact ⟨by first | rfl | (simp [errW_none, errW_some] <;> rfl) | (simp [*, errW_none, errW_some] <;> rfl), belx HB⟩
                rw [if_pos c43] at H
                have c43b0 : (t430 == 1) = true := beq_iff_eq.mpr c43
                have c43b1 : (t430 != 1) = false := bne_eq_false_iff_eq.mpr c43
                clear c43
                obtain rfl := Option.some.inj H
                obtain ⟨Ao44, co44, eo44⟩ := Kd.R_slice HO_9.out
                subst eo44
                go_wp2
                go_ret
                exact ⟨by first | rfl | (simp [errW_none, errW_some] <;> rfl) | (simp [*, errW_none, errW_some] <;> rfl), belx HB⟩
              rw [if_neg c41] at H
              have c41b0 : decide (a1 < a0) = false := decide_eq_false c41
              clear c41
              by_cases c45 : a1 > 255
              case pos =>
                rw [if_pos c45] at H
                have c45b0 : decide (255 < a1) = true := decide_eq_true c45
                clear c45
                by_cases c46 : t429 = 5
                case neg =>
                  rw [if_neg c46] at H
                  have c46b0 : (t429 == 5) = false := beq_eq_false_iff_ne.mpr c46
                  have c46b1 : (t429 != 5) = true := bne_iff_ne.mpr c46
                  obtain rfl := Option.some.inj H
                  go_wp2
                  go_ret
                  exact ⟨by first | rfl | (simp [errW_none, errW_some] <;> rfl) | (simp [*, errW_none, errW_some] <;> rfl), belx HB⟩
                rw [if_pos c46] at H
                have c46b0 : (t429 == 5) = true := beq_iff_eq.mpr c46
                have c46b1 : (t429 != 5) = false := bne_eq_false_iff_eq.mpr c46
                clear c46
                by_cases c47 : t430 = 1
                case neg =>
                  rw [if_neg c47] at H
                  have c47b0 : (t430 == 1) = false := beq_eq_false_iff_ne.mpr c47
                  have c47b1 : (t430 != 1) = true := bne_iff_ne.mpr c47
                  obtain rfl := Option.some.inj H
                  go_wp2
                  go_ret
                  exact ⟨by first | rfl | (simp [errW_none, errW_some] <;> rfl) | (simp [*, errW_none, errW_some] <;> rfl), belx HB⟩
                rw [if_pos c47] at H
                have c47b0 : (t430 == 1) = true := beq_iff_eq.mpr c47
                have c47b1 : (t430 != 1) = false := bne_eq_false_iff_eq.mpr c47
                clear c47
                obtain rfl := Option.some.inj H
                obtain ⟨Ao48, co48, eo48⟩ := Kd.R_slice HO_9.out
                subst eo48
                go_wp2
                go_ret
                exact ⟨by first | rfl | (simp [errW_none, errW_some] <;> rfl) | (simp [*, errW_none, errW_some] <;> rfl), belx HB⟩
              rw [if_neg c45] at H
              have c45b0 : decide (255 < a1) = false := decide_eq_false c45
              clear c45
              by_cases c49 : t429 = 0
              case neg =>
                rw [if_neg c49] at H
                have c49b0 : (t429 == 0) = false := beq_eq_false_iff_ne.mpr c49
                have c49b1 : (t429 != 0) = true := bne_iff_ne.mpr c49
                obtain rfl := Option.some.inj H
                go_wp2
                go_ret
                exact ⟨by first | rfl | (simp [errW_none, errW_some] <;> rfl) | (simp [*, errW_none, errW_some] <;> rfl), belx HB⟩
              rw [if_pos c49] at H
              have c49b0 : (t429 == 0) = true := beq_iff_eq.mpr c49
              have c49b1 : (t429 != 0) = false := bne_eq_false_iff_eq.mpr c49
              clear c49
              by_cases c50 : (t428.length : Int) = 3
              case neg =>
                rw [if_neg c50] at H
                have c50b0 : ((t428.length : Int) == 3) = false := beq_eq_false_iff_ne.mpr c50
                have c50b1 : ((t428.length : Int) != 3) = true := bne_iff_ne.mpr c50
                obtain rfl := Option.some.inj H
                obtain ⟨Ao53, co53, eo53⟩ := Kd.R_slice HO_9.out
                subst eo53
                go_wp2
                go_ret
                exact ⟨by first | rfl | (simp [errW_none, errW_some] <;> rfl) | (simp [*, errW_none, errW_some] <;> rfl), belx HB⟩
              rw [if_pos c50] at H
              have c50b0 : ((t428.length : Int) == 3) = true := beq_iff_eq.mpr c50
              have c50b1 : ((t428.length : Int) != 3) = false := bne_eq_false_iff_eq.mpr c50
              clear c50
              by_cases c51 : 1 < (t428.length : Int)
              case neg => rw [if_neg c51] at H; exact absurd H (by simp)
              rw [if_pos c51] at H
              have c51b0 : decide (1 < (t428.length : Int)) = true := decide_eq_true c51
              have c51b1 : decide (1 < t428.length) = true := decide_eq_true (by omega)
              clear c51
              obtain rfl := Option.some.inj H
              obtain ⟨Ao52, co52, eo52⟩ := Kd.R_slice HO_9.out
              subst eo52
              have p438 : 0 ≤ (1 : Int) := (by omega)
              have q438 : 1 < (t428.length : Int) := odt
              obtain ⟨ad438, e438, hx438_0, hx438_1, hx438_2, hx438_3, hx438_4, hx438_5, hx438_6, hx438_7, hx438_8⟩ := at_T35 (Kd.R_reads' HO_9.out).2.2 1 p438 q438
              cases e438
              (try simp only [show (1 : Int).toNat = 1 from rfl, Nat.reduceMul, Nat.reduceEqDiff, Go.Addr.add, ↓reduceIte] at hx438_0)
              (try simp only [show (1 : Int).toNat = 1 from rfl, Nat.reduceMul, Nat.reduceEqDiff, Go.Addr.add, ↓reduceIte] at hx438_1)
              (try simp only [show (1 : Int).toNat = 1 from rfl, Nat.reduceMul, Nat.reduceEqDiff, Go.Addr.add, ↓reduceIte] at hx438_2)
              (try simp only [show (1 : Int).toNat = 1 from rfl, Nat.reduceMul, Nat.reduceEqDiff, Go.Addr.add, ↓reduceIte] at hx438_3)
              (try simp only [show (1 : Int).toNat = 1 from rfl, Nat.reduceMul, Nat.reduceEqDiff, Go.Addr.add, ↓reduceIte] at hx438_4)
              (try simp only [show (1 : Int).toNat = 1 from rfl, Nat.reduceMul, Nat.reduceEqDiff, Go.Addr.add, ↓reduceIte] at hx438_5)
              (try simp only [show (1 : Int).toNat = 1 from rfl, Nat.reduceMul, Nat.reduceEqDiff, Go.Addr.add, ↓reduceIte] at hx438_6)
              (try simp only [show (1 : Int).toNat = 1 from rfl, Nat.reduceMul, Nat.reduceEqDiff, Go.Addr.add, ↓reduceIte] at hx438_7)
              (try simp only [show (1 : Int).toNat = 1 from rfl, Nat.reduceMul, Nat.reduceEqDiff, Go.Addr.add, ↓reduceIte] at hx438_8)
              have qi438 : (1 < t428.length) = True := eq_true (by omega)
              (try rw [show ((1 : Int)).toNat = 1 from rfl] at hx438_0)
              (try rw [show 1 * 9 = 9 from rfl] at hx438_0)
              (try rw [show ((1 : Int)).toNat = 1 from rfl] at hx438_1)
              (try rw [show 1 * 9 = 9 from rfl] at hx438_1)
              (try rw [show ((1 : Int)).toNat = 1 from rfl] at hx438_2)
              (try rw [show 1 * 9 = 9 from rfl] at hx438_2)
              (try rw [show ((1 : Int)).toNat = 1 from rfl] at hx438_3)
              (try rw [show 1 * 9 = 9 from rfl] at hx438_3)
              (try rw [show ((1 : Int)).toNat = 1 from rfl] at hx438_4)
              (try rw [show 1 * 9 = 9 from rfl] at hx438_4)
              (try rw [show ((1 : Int)).toNat = 1 from rfl] at hx438_5)
              (try rw [show 1 * 9 = 9 from rfl] at hx438_5)
              (try rw [show ((1 : Int)).toNat = 1 from rfl] at hx438_6)
              (try rw [show 1 * 9 = 9 from rfl] at hx438_6)
              (try rw [show ((1 : Int)).toNat = 1 from rfl] at hx438_7)
              (try rw [show 1 * 9 = 9 from rfl] at hx438_7)
              (try rw [show ((1 : Int)).toNat = 1 from rfl] at hx438_8)
              (try rw [show 1 * 9 = 9 from rfl] at hx438_8)
              replace p438 := eq_true p438
              replace q438 := eq_true q438
              go_wp2
              go_ret
              exact ⟨by first | rfl | (simp [errW_none, errW_some] <;> rfl) | (simp [*, errW_none, errW_some] <;> rfl), belx HB⟩
def scantlinglaw03_LexRepeats.Pure : Prop := ∀ (a0 : Int) (a1 : Int), (Lit.int .u16 a0).wf = true → (Lit.int .u16 a1).wf = true → ∃ k, scantlinglaw03_LexRepeats.f k a0 a1 = some true
theorem scantlinglaw03_LexRepeats.walk (P : scantlinglaw03_LexRepeats.Pure) (a0 : Int) (a1 : Int) (w : World) (hL_ : LaidW w) (w0 : (Lit.int .u16 a0).wf = true) (w1 : (Lit.int .u16 a1).wf = true) :
    Calls Tryd.prog 7 #[.int .u16 a0, .int .u16 a1] w fun e w' => e = .returned (.bool true) ∧ Below w.heap.size w w' := by
  obtain ⟨k, h⟩ := P a0 a1 w0 w1
  refine (scantlinglaw03_LexRepeats.calls k a0 a1 true w hL_ h).mono ?_
  rintro e w' ⟨rfl, hd⟩
  exact ⟨rfl, hd⟩
end Go.Proofs.YtepnbnpgifpfbaaDoor.G
