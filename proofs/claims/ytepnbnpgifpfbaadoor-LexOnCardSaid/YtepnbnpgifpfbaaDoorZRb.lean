/- Lemmas and walks of this claim: GScantlingref03In, GScantlingref03Utf8, GScantlingref03Short, GScantlingref03End, GScantlingref03Digit, GScantlingref03Pair. -/
import Derived.Test.YtepnbnpgifpfbaaDoorZKb
set_option linter.unusedVariables false
set_option linter.unusedSimpArgs false
namespace Go.Proofs.YtepnbnpgifpfbaaDoor.G
open Go.RowKit Go.Proofs.YtepnbnpgifpfbaaDoorW.PrintWords Go.Proofs.YtepnbnpgifpfbaaDoorW.PrintLast Go.Proofs.YtepnbnpgifpfbaaDoorW.PrintMore
attribute [local go_sem] max2_int min2_int max_two min_two max_three min_three max_four min_four
set_option linter.unusedVariables false
set_option linter.unusedSimpArgs false
def scantlingref03_in.f (a0 : ByteArray) (a1 : Int) (a2 : Int) (a3 : Int) : Option (Bool) := if a1 < (a0.size : Int) then (if 0 ≤ a1 then (if (wrap64 (bt a0 a1)) ≥ a2 then (some (decide ((wrap64 (bt a0 a1)) ≤ a3))) else (some false)) else (none)) else (some false)
set_option maxHeartbeats 8000000 in
set_option maxRecDepth 100000 in
theorem scantlingref03_in.calls (a0 : ByteArray) (a1 : Int) (a2 : Int) (a3 : Int) (r : Bool) (w : World) (h : scantlingref03_in.f a0 a1 a2 a3 = some r) :
    Calls Tryd.prog 24 #[.string a0, .int .i64 a1, .int .i64 a2, .int .i64 a3] w fun e w' => e = .returned (.bool r) ∧ Drawn0 w w' := by
  have H : (if a1 < (a0.size : Int) then (if 0 ≤ a1 then (if (wrap64 (bt a0 a1)) ≥ a2 then (some (decide ((wrap64 (bt a0 a1)) ≤ a3))) else (some false)) else (none)) else (some false)) = some r := h
  clear h
  by_cases c5 : a1 < (a0.size : Int)
  case neg =>
    rw [if_neg c5] at H
    have c5b0 : decide (a1 < (a0.size : Int)) = false := decide_eq_false c5
    clear c5
    obtain rfl := Option.some.inj H
    go_enter Tryd.func24, Tryd.ntmps24
    go_wp2
    go_ret
    exact ⟨by first | rfl | (simp; done) | (simp [*]; done) | (simp [*, IntKind.wrap_i64, wrap64]; done), by repeat (first | exact Drawn0.refl _ | apply Drawn0.step)⟩
  rw [if_pos c5] at H
  have c5b0 : decide (a1 < (a0.size : Int)) = true := decide_eq_true c5
  clear c5
  by_cases c6 : 0 ≤ a1
  case neg => rw [if_neg c6] at H; exact absurd H (by simp)
  rw [if_pos c6] at H
  have c6b0 : decide (0 ≤ a1) = true := decide_eq_true c6
  clear c6
  by_cases c8 : (wrap64 (bt a0 a1)) ≥ a2
  case neg =>
    rw [if_neg c8] at H
    have c8b0 : decide (a2 ≤ (wrap64 (bt a0 a1))) = false := decide_eq_false c8
    clear c8
    obtain rfl := Option.some.inj H
    have p7 : 0 ≤ (a1 : Int) := odt
    have q7 : a1 < (a0.size : Int) := odt
    have hx7 := bt_at a0 a1
    replace p7 := eq_true p7
    replace q7 := eq_true q7
    go_enter Tryd.func24, Tryd.ntmps24
    go_wp2
    go_ret
    exact ⟨by first | rfl | (simp; done) | (simp [*]; done) | (simp [*, IntKind.wrap_i64, wrap64]; done), by repeat (first | exact Drawn0.refl _ | apply Drawn0.step)⟩
  rw [if_pos c8] at H
  have c8b0 : decide (a2 ≤ (wrap64 (bt a0 a1))) = true := decide_eq_true c8
  clear c8
  obtain rfl := Option.some.inj H
  have p7 : 0 ≤ (a1 : Int) := odt
  have q7 : a1 < (a0.size : Int) := odt
  have hx7 := bt_at a0 a1
  replace p7 := eq_true p7
  replace q7 := eq_true q7
  have p9 : 0 ≤ (a1 : Int) := odt
  have q9 : a1 < (a0.size : Int) := odt
  have hx9 := bt_at a0 a1
  replace p9 := eq_true p9
  replace q9 := eq_true q9
  go_enter Tryd.func24, Tryd.ntmps24
  go_wp2
  go_ret
  exact ⟨by first | rfl | (simp; done) | (simp [*]; done) | (simp [*, IntKind.wrap_i64, wrap64]; done), by repeat (first | exact Drawn0.refl _ | apply Drawn0.step)⟩
end Go.Proofs.YtepnbnpgifpfbaaDoor.G
namespace Go.Proofs.YtepnbnpgifpfbaaDoor.G
open Go.RowKit Go.Proofs.YtepnbnpgifpfbaaDoorW.PrintWords Go.Proofs.YtepnbnpgifpfbaaDoorW.PrintLast Go.Proofs.YtepnbnpgifpfbaaDoorW.PrintMore
attribute [local go_sem] max2_int min2_int max_two min_two max_three min_three max_four min_four
set_option linter.unusedVariables false
set_option linter.unusedSimpArgs false
mutual
def scantlingref03_Utf8.l0 : Nat → ByteArray → Int → Option (Bool)
  | 0, _, _ => none
  | k + 1, x0, x3 => if x3 < (x0.size : Int) then (if 0 ≤ x3 then ((scantlingref03_in.f x0 (wrap64 (x3 + 1)) 128 191).bind fun t188 => ((scantlingref03_in.f x0 (wrap64 (x3 + 2)) 128 191).bind fun t189 => ((scantlingref03_in.f x0 (wrap64 (x3 + 3)) 128 191).bind fun t190 => (if (wrap64 (bt x0 x3)) < 128 then (scantlingref03_Utf8.l0 k x0 (wrap64 (x3 + 1))) else (if (wrap64 (bt x0 x3)) ≥ 194 then (if (wrap64 (bt x0 x3)) ≤ 223 then (scantlingref03_Utf8.j1 k x0 x3 (wrap64 (bt x0 x3)) t188 t189 t190 t188) else (scantlingref03_Utf8.j1 k x0 x3 (wrap64 (bt x0 x3)) t188 t189 t190 false)) else (scantlingref03_Utf8.j1 k x0 x3 (wrap64 (bt x0 x3)) t188 t189 t190 false)))))) else (none)) else (some true)
def scantlingref03_Utf8.j1 : Nat → ByteArray → Int → Int → Bool → Bool → Bool → Bool → Option (Bool)
  | 0, _, _, _, _, _, _, _ => none
  | k + 1, x0, x3, x4, x5, x6, x7, x33 => if x33 = true then (scantlingref03_Utf8.l0 k x0 (wrap64 (x3 + 2))) else (if x4 = 224 then ((scantlingref03_in.f x0 (wrap64 (x3 + 1)) 160 191).bind fun t191 => (if t191 = true then (scantlingref03_Utf8.j2 k x0 x3 x4 x5 x6 x7 x6) else (scantlingref03_Utf8.j2 k x0 x3 x4 x5 x6 x7 false))) else (scantlingref03_Utf8.j2 k x0 x3 x4 x5 x6 x7 false))
def scantlingref03_Utf8.j2 : Nat → ByteArray → Int → Int → Bool → Bool → Bool → Bool → Option (Bool)
  | 0, _, _, _, _, _, _, _ => none
  | k + 1, x0, x3, x4, x5, x6, x7, x45 => if x45 = true then (scantlingref03_Utf8.l0 k x0 (wrap64 (x3 + 3))) else (if x4 ≥ 225 then (if x4 ≤ 236 then (if x5 = true then (scantlingref03_Utf8.j3 k x0 x3 x4 x5 x6 x7 x6) else (scantlingref03_Utf8.j3 k x0 x3 x4 x5 x6 x7 false)) else (if x4 = 238 then (if x5 = true then (scantlingref03_Utf8.j3 k x0 x3 x4 x5 x6 x7 x6) else (scantlingref03_Utf8.j3 k x0 x3 x4 x5 x6 x7 false)) else (if x4 = 239 then (if x5 = true then (scantlingref03_Utf8.j3 k x0 x3 x4 x5 x6 x7 x6) else (scantlingref03_Utf8.j3 k x0 x3 x4 x5 x6 x7 false)) else (scantlingref03_Utf8.j3 k x0 x3 x4 x5 x6 x7 false)))) else (if x4 = 238 then (if x5 = true then (scantlingref03_Utf8.j3 k x0 x3 x4 x5 x6 x7 x6) else (scantlingref03_Utf8.j3 k x0 x3 x4 x5 x6 x7 false)) else (if x4 = 239 then (if x5 = true then (scantlingref03_Utf8.j3 k x0 x3 x4 x5 x6 x7 x6) else (scantlingref03_Utf8.j3 k x0 x3 x4 x5 x6 x7 false)) else (scantlingref03_Utf8.j3 k x0 x3 x4 x5 x6 x7 false))))
def scantlingref03_Utf8.j3 : Nat → ByteArray → Int → Int → Bool → Bool → Bool → Bool → Option (Bool)
  | 0, _, _, _, _, _, _, _ => none
  | k + 1, x0, x3, x4, x5, x6, x7, x59 => if x59 = true then (scantlingref03_Utf8.l0 k x0 (wrap64 (x3 + 3))) else (if x4 = 237 then ((scantlingref03_in.f x0 (wrap64 (x3 + 1)) 128 159).bind fun t192 => (if t192 = true then (scantlingref03_Utf8.j4 k x0 x3 x4 x5 x6 x7 x6) else (scantlingref03_Utf8.j4 k x0 x3 x4 x5 x6 x7 false))) else (scantlingref03_Utf8.j4 k x0 x3 x4 x5 x6 x7 false))
def scantlingref03_Utf8.j4 : Nat → ByteArray → Int → Int → Bool → Bool → Bool → Bool → Option (Bool)
  | 0, _, _, _, _, _, _, _ => none
  | k + 1, x0, x3, x4, x5, x6, x7, x82 => if x82 = true then (scantlingref03_Utf8.l0 k x0 (wrap64 (x3 + 3))) else (if x4 = 240 then ((scantlingref03_in.f x0 (wrap64 (x3 + 1)) 144 191).bind fun t193 => (if t193 = true then (if x6 = true then (scantlingref03_Utf8.j5 k x0 x3 x4 x5 x6 x7 x7) else (scantlingref03_Utf8.j5 k x0 x3 x4 x5 x6 x7 false)) else (scantlingref03_Utf8.j5 k x0 x3 x4 x5 x6 x7 false))) else (scantlingref03_Utf8.j5 k x0 x3 x4 x5 x6 x7 false))
def scantlingref03_Utf8.j5 : Nat → ByteArray → Int → Int → Bool → Bool → Bool → Bool → Option (Bool)
  | 0, _, _, _, _, _, _, _ => none
  | k + 1, x0, x3, x4, x5, x6, x7, x96 => if x96 = true then (scantlingref03_Utf8.l0 k x0 (wrap64 (x3 + 4))) else (if x4 ≥ 241 then (if x4 ≤ 243 then (if x5 = true then (if x6 = true then (scantlingref03_Utf8.j6 k x0 x3 x4 x6 x7 x7) else (scantlingref03_Utf8.j6 k x0 x3 x4 x6 x7 false)) else (scantlingref03_Utf8.j6 k x0 x3 x4 x6 x7 false)) else (scantlingref03_Utf8.j6 k x0 x3 x4 x6 x7 false)) else (scantlingref03_Utf8.j6 k x0 x3 x4 x6 x7 false))
def scantlingref03_Utf8.j6 : Nat → ByteArray → Int → Int → Bool → Bool → Bool → Option (Bool)
  | 0, _, _, _, _, _, _ => none
  | k + 1, x0, x3, x4, x6, x7, x113 => if x113 = true then (scantlingref03_Utf8.l0 k x0 (wrap64 (x3 + 4))) else (if x4 = 244 then ((scantlingref03_in.f x0 (wrap64 (x3 + 1)) 128 143).bind fun t194 => (if t194 = true then (if x6 = true then (if x7 = true then (scantlingref03_Utf8.l0 k x0 (wrap64 (x3 + 4))) else (some false)) else (some false)) else (some false))) else (some false))
end
def scantlingref03_Utf8.f (k : Nat) (a0 : ByteArray) : Option (Bool) := scantlingref03_Utf8.l0 k a0 0
set_option maxHeartbeats 8000000 in
set_option maxRecDepth 100000 in
theorem scantlingref03_Utf8.calls (k : Nat) (a0 : ByteArray) (r : Bool) (w : World) (h : scantlingref03_Utf8.f k a0 = some r) :
    Calls Tryd.prog 15 #[.string a0] w fun e w' => e = .returned (.bool r) ∧ Drawn0 w w' := by
  have H : (scantlingref03_Utf8.l0 k a0 0) = some r := h
  clear h
  have H' := Aside0.mk H
  clear H
  go_enter Tryd.func15, Tryd.ntmps15
  go_wp2
  go_loopg [3] k (fun kq v3 w' => ∃ (x3_1 : Int), v3 = .int .i64 x3_1 ∧ Aside0 (scantlingref03_Utf8.l0 kq a0 x3_1 = some r) ∧ Aside0 (kq ≤ k) ∧ Drawn0 w w')
  case atStart => exact ⟨(0), (by first | rfl | (simp; done) | (simp [*]; done) | exact congrArg (Value.int .i64) (by unfold wrap64; omega)), (by first | exact H' | (subst_vars; exact H')), ⟨Nat.le_refl _⟩, by repeat (first | exact Drawn0.refl _ | apply Drawn0.step)⟩
  case round =>
    clear H'
    obtain ⟨x3_1, rfl, HA, HK1, ⟨m1, rfl⟩⟩ := hrel
    cases gk with
    | zero => exact absurd HA.out (by simp [scantlingref03_Utf8.l0])
    | succ k1 =>
      have H := HA.out
      clear HA
      simp only [scantlingref03_Utf8.l0] at H
      by_cases c2 : x3_1 < (a0.size : Int)
      case neg =>
        rw [if_neg c2] at H
        have c2b0 : decide (x3_1 < (a0.size : Int)) = false := decide_eq_false c2
        clear c2
        as_aux_lemma =>
          obtain rfl := Option.some.inj H
          go_wp2
          go_ret
          exact ⟨by first | rfl | (simp; done) | (simp [*]; done) | (simp [*, IntKind.wrap_i64, wrap64]; done), by repeat (first | exact Drawn0.refl _ | apply Drawn0.step)⟩
      rw [if_pos c2] at H
      have c2b0 : decide (x3_1 < (a0.size : Int)) = true := decide_eq_true c2
      clear c2
      by_cases c3 : 0 ≤ x3_1
      case neg => rw [if_neg c3] at H; exact absurd H (by simp)
      rw [if_pos c3] at H
      have c3b0 : decide (0 ≤ x3_1) = true := decide_eq_true c3
      clear c3
      replace H := Option.bind_eq_some_iff.mp H
      obtain ⟨t188, A50, H⟩ := H
      replace H : ((scantlingref03_in.f a0 (wrap64 (x3_1 + 2)) 128 191).bind fun t189 => ((scantlingref03_in.f a0 (wrap64 (x3_1 + 3)) 128 191).bind fun t190 => (if (wrap64 (bt a0 x3_1)) < 128 then (scantlingref03_Utf8.l0 k1 a0 (wrap64 (x3_1 + 1))) else (if (wrap64 (bt a0 x3_1)) ≥ 194 then (if (wrap64 (bt a0 x3_1)) ≤ 223 then (scantlingref03_Utf8.j1 k1 a0 x3_1 (wrap64 (bt a0 x3_1)) t188 t189 t190 t188) else (scantlingref03_Utf8.j1 k1 a0 x3_1 (wrap64 (bt a0 x3_1)) t188 t189 t190 false)) else (scantlingref03_Utf8.j1 k1 a0 x3_1 (wrap64 (bt a0 x3_1)) t188 t189 t190 false))))) = some r := H
      have A5 := Aside0.mk A50
      clear A50
      replace H := Option.bind_eq_some_iff.mp H
      obtain ⟨t189, A60, H⟩ := H
      replace H : ((scantlingref03_in.f a0 (wrap64 (x3_1 + 3)) 128 191).bind fun t190 => (if (wrap64 (bt a0 x3_1)) < 128 then (scantlingref03_Utf8.l0 k1 a0 (wrap64 (x3_1 + 1))) else (if (wrap64 (bt a0 x3_1)) ≥ 194 then (if (wrap64 (bt a0 x3_1)) ≤ 223 then (scantlingref03_Utf8.j1 k1 a0 x3_1 (wrap64 (bt a0 x3_1)) t188 t189 t190 t188) else (scantlingref03_Utf8.j1 k1 a0 x3_1 (wrap64 (bt a0 x3_1)) t188 t189 t190 false)) else (scantlingref03_Utf8.j1 k1 a0 x3_1 (wrap64 (bt a0 x3_1)) t188 t189 t190 false)))) = some r := H
      have A6 := Aside0.mk A60
      clear A60
      replace H := Option.bind_eq_some_iff.mp H
      obtain ⟨t190, A70, H⟩ := H
      replace H : (if (wrap64 (bt a0 x3_1)) < 128 then (scantlingref03_Utf8.l0 k1 a0 (wrap64 (x3_1 + 1))) else (if (wrap64 (bt a0 x3_1)) ≥ 194 then (if (wrap64 (bt a0 x3_1)) ≤ 223 then (scantlingref03_Utf8.j1 k1 a0 x3_1 (wrap64 (bt a0 x3_1)) t188 t189 t190 t188) else (scantlingref03_Utf8.j1 k1 a0 x3_1 (wrap64 (bt a0 x3_1)) t188 t189 t190 false)) else (scantlingref03_Utf8.j1 k1 a0 x3_1 (wrap64 (bt a0 x3_1)) t188 t189 t190 false))) = some r := H
      have A7 := Aside0.mk A70
      clear A70
      by_cases c8 : (wrap64 (bt a0 x3_1)) < 128
      case pos =>
        rw [if_pos c8] at H
        have c8b0 : decide ((wrap64 (bt a0 x3_1)) < 128) = true := decide_eq_true c8
        clear c8
        as_aux_lemma =>
          have H' := Aside0.mk H
          clear H
          have p4 : 0 ≤ (x3_1 : Int) := odt
          have q4 : x3_1 < (a0.size : Int) := odt
          have hx4 := bt_at a0 x3_1
          replace p4 := eq_true p4
          replace q4 := eq_true q4
          go_wp2_with (first | ((with_reducible refine gate_callee (f := 24) rfl ?_); refine goesL_ (some 19) rfl rfl Tryd.func24 (by kernel_rfl) rfl #[.string a0, .int .i64 (wrap64 (x3_1 + 1)), .int .i64 128, .int .i64 191] rfl (by (try simp only [List.map_toArray, List.map_cons, List.map_nil]); first | done | rfl | (simp only [List.length_drop, List.length_take]; rfl)) ?_; (with_reducible refine (scantlingref03_in.calls a0 (wrap64 (x3_1 + 1)) 128 191 t188 _ A5.out).mono ?_); rintro e w' ⟨rfl, ⟨nd, rfl⟩⟩; refine ⟨_, rfl, ?_⟩) | ((with_reducible refine gate_callee (f := 24) rfl ?_); refine goesL_ (some 23) rfl rfl Tryd.func24 (by kernel_rfl) rfl #[.string a0, .int .i64 (wrap64 (x3_1 + 2)), .int .i64 128, .int .i64 191] rfl (by (try simp only [List.map_toArray, List.map_cons, List.map_nil]); first | done | rfl | (simp only [List.length_drop, List.length_take]; rfl)) ?_; (with_reducible refine (scantlingref03_in.calls a0 (wrap64 (x3_1 + 2)) 128 191 t189 _ A6.out).mono ?_); rintro e w' ⟨rfl, ⟨nd, rfl⟩⟩; refine ⟨_, rfl, ?_⟩) | ((with_reducible refine gate_callee (f := 24) rfl ?_); refine goesL_ (some 27) rfl rfl Tryd.func24 (by kernel_rfl) rfl #[.string a0, .int .i64 (wrap64 (x3_1 + 3)), .int .i64 128, .int .i64 191] rfl (by (try simp only [List.map_toArray, List.map_cons, List.map_nil]); first | done | rfl | (simp only [List.length_drop, List.length_take]; rfl)) ?_; (with_reducible refine (scantlingref03_in.calls a0 (wrap64 (x3_1 + 3)) 128 191 t190 _ A7.out).mono ?_); rintro e w' ⟨rfl, ⟨nd, rfl⟩⟩; refine ⟨_, rfl, ?_⟩))
          go_roundg k1
          case measure => have := HK1.out; omega
          case rel => exact ⟨(wrap64 (x3_1 + 1)), (by first | rfl | (simp; done) | (simp [*]; done) | exact congrArg (Value.int .i64) (by unfold wrap64; omega)), (by first | exact H' | (subst_vars; exact H')), ⟨by have := HK1.out; omega⟩, by repeat (first | exact Drawn0.refl _ | apply Drawn0.step)⟩
      rw [if_neg c8] at H
      have c8b0 : decide ((wrap64 (bt a0 x3_1)) < 128) = false := decide_eq_false c8
      clear c8
      have HC9 := Aside0.mk H
      clear H
      have p4 : 0 ≤ (x3_1 : Int) := odt
      have q4 : x3_1 < (a0.size : Int) := odt
      have hx4 := bt_at a0 x3_1
      replace p4 := eq_true p4
      replace q4 := eq_true q4
      go_upto_region 10 with (first | ((with_reducible refine gate_callee (f := 24) rfl ?_); refine goesL_ (some 19) rfl rfl Tryd.func24 (by kernel_rfl) rfl #[.string a0, .int .i64 (wrap64 (x3_1 + 1)), .int .i64 128, .int .i64 191] rfl (by (try simp only [List.map_toArray, List.map_cons, List.map_nil]); first | done | rfl | (simp only [List.length_drop, List.length_take]; rfl)) ?_; (with_reducible refine (scantlingref03_in.calls a0 (wrap64 (x3_1 + 1)) 128 191 t188 _ A5.out).mono ?_); rintro e w' ⟨rfl, ⟨nd, rfl⟩⟩; refine ⟨_, rfl, ?_⟩) | ((with_reducible refine gate_callee (f := 24) rfl ?_); refine goesL_ (some 23) rfl rfl Tryd.func24 (by kernel_rfl) rfl #[.string a0, .int .i64 (wrap64 (x3_1 + 2)), .int .i64 128, .int .i64 191] rfl (by (try simp only [List.map_toArray, List.map_cons, List.map_nil]); first | done | rfl | (simp only [List.length_drop, List.length_take]; rfl)) ?_; (with_reducible refine (scantlingref03_in.calls a0 (wrap64 (x3_1 + 2)) 128 191 t189 _ A6.out).mono ?_); rintro e w' ⟨rfl, ⟨nd, rfl⟩⟩; refine ⟨_, rfl, ?_⟩) | ((with_reducible refine gate_callee (f := 24) rfl ?_); refine goesL_ (some 27) rfl rfl Tryd.func24 (by kernel_rfl) rfl #[.string a0, .int .i64 (wrap64 (x3_1 + 3)), .int .i64 128, .int .i64 191] rfl (by (try simp only [List.map_toArray, List.map_cons, List.map_nil]); first | done | rfl | (simp only [List.length_drop, List.length_take]; rfl)) ?_; (with_reducible refine (scantlingref03_in.calls a0 (wrap64 (x3_1 + 3)) 128 191 t190 _ A7.out).mono ?_); rintro e w' ⟨rfl, ⟨nd, rfl⟩⟩; refine ⟨_, rfl, ?_⟩))
      (try simp only [Act.put, List.setIfInBounds_toArray, List.set_cons_zero, List.set_cons_succ])
      go_cut [33] (fun v33 wc => ∃ (kq : Nat) (x33_8 : Bool), v33 = .bool x33_8 ∧ Aside0 (scantlingref03_Utf8.j1 kq a0 x3_1 (wrap64 (bt a0 x3_1)) t188 t189 t190 x33_8 = some r) ∧ Aside0 (kq ≤ k1) ∧ Drawn0 w wc)
      case first =>
        have H := HC9.out
        clear HC9
        by_cases c10 : (wrap64 (bt a0 x3_1)) ≥ 194
        · rw [if_pos c10] at H
          have c10b0 : decide (194 ≤ (wrap64 (bt a0 x3_1))) = true := decide_eq_true c10
          clear c10
          (first | rw [c10b0] | (simp only [i64_w, i32_w]; rw [c10b0]) | skip)
          by_cases c11 : (wrap64 (bt a0 x3_1)) ≤ 223
          · rw [if_pos c11] at H
            have c11b0 : decide ((wrap64 (bt a0 x3_1)) ≤ 223) = true := decide_eq_true c11
            clear c11
            as_aux_lemma =>
              have H' := Aside0.mk H
              clear H
              go_wp2
              go_meet
              case rel => exact ⟨_, (t188), (by first | rfl | (simp; done) | (simp [*]; done) | exact congrArg (Value.int .i64) (by unfold wrap64; omega)), (by first | exact H' | (subst_vars; exact H')), ⟨by have := HK1.out; first | omega | exact Nat.le_refl _⟩, by repeat (first | exact Drawn0.refl _ | apply Drawn0.step)⟩
          · rw [if_neg c11] at H
            have c11b0 : decide ((wrap64 (bt a0 x3_1)) ≤ 223) = false := decide_eq_false c11
            clear c11
            as_aux_lemma =>
              have H' := Aside0.mk H
              clear H
              go_wp2
              go_meet
              case rel => exact ⟨_, (false), (by first | rfl | (simp; done) | (simp [*]; done) | exact congrArg (Value.int .i64) (by unfold wrap64; omega)), (by first | exact H' | (subst_vars; exact H')), ⟨by have := HK1.out; first | omega | exact Nat.le_refl _⟩, by repeat (first | exact Drawn0.refl _ | apply Drawn0.step)⟩
        · rw [if_neg c10] at H
          have c10b0 : decide (194 ≤ (wrap64 (bt a0 x3_1))) = false := decide_eq_false c10
          clear c10
          (first | rw [c10b0] | (simp only [i64_w, i32_w]; rw [c10b0]) | skip)
          as_aux_lemma =>
            have H' := Aside0.mk H
            clear H
            go_wp2
            go_meet
            case rel => exact ⟨_, (false), (by first | rfl | (simp; done) | (simp [*]; done) | exact congrArg (Value.int .i64) (by unfold wrap64; omega)), (by first | exact H' | (subst_vars; exact H')), ⟨by have := HK1.out; first | omega | exact Nat.le_refl _⟩, by repeat (first | exact Drawn0.refl _ | apply Drawn0.step)⟩
      case rest =>
        clear HC9
        try clear c2; try clear c2b0; try clear c3; try clear c3b0; try clear p4; try clear q4; try clear hx4; try clear c8; try clear c8b0; try clear p4; try clear q4
        obtain ⟨kq, x33_8, rfl, HA, HJ8, ⟨mc8, rfl⟩⟩ := hcut
        cases kq with
        | zero => exact absurd HA.out (by simp [scantlingref03_Utf8.j1])
        | succ kj8 =>
          have H := HA.out
          clear HA
          simp only [scantlingref03_Utf8.j1] at H
          by_cases c12 : x33_8 = true
          case pos =>
            subst c12
            have H1 : (scantlingref03_Utf8.l0 kj8 a0 (wrap64 (x3_1 + 2))) = some r := by rw [if_pos rfl] at H; exact H
            clear H
            have H := H1
            clear H1
            as_aux_lemma =>
              have H' := Aside0.mk H
              clear H
              go_wp2
              go_roundg kj8
              case measure => have := HK1.out; have := HJ8.out; omega
              case rel => exact ⟨(wrap64 (x3_1 + 2)), (by first | rfl | (simp; done) | (simp [*]; done) | exact congrArg (Value.int .i64) (by unfold wrap64; omega)), (by first | exact H' | (subst_vars; exact H')), ⟨by have := HK1.out; have := HJ8.out; omega⟩, by repeat (first | exact Drawn0.refl _ | apply Drawn0.step)⟩
          replace c12 := Bool.eq_false_iff.mpr c12
          subst c12
          have H1 : (if (wrap64 (bt a0 x3_1)) = 224 then ((scantlingref03_in.f a0 (wrap64 (x3_1 + 1)) 160 191).bind fun t191 => (if t191 = true then (scantlingref03_Utf8.j2 kj8 a0 x3_1 (wrap64 (bt a0 x3_1)) t188 t189 t190 t189) else (scantlingref03_Utf8.j2 kj8 a0 x3_1 (wrap64 (bt a0 x3_1)) t188 t189 t190 false))) else (scantlingref03_Utf8.j2 kj8 a0 x3_1 (wrap64 (bt a0 x3_1)) t188 t189 t190 false)) = some r := by rw [if_neg (show ¬ (false = true) by decide)] at H; exact H
          clear H
          have H := H1
          clear H1
          have HC13 := Aside0.mk H
          clear H
          go_upto_region 12 with (fail)
          go_cut [45] (fun v45 wc => ∃ (kq : Nat) (x45_12 : Bool), v45 = .bool x45_12 ∧ Aside0 (scantlingref03_Utf8.j2 kq a0 x3_1 (wrap64 (bt a0 x3_1)) t188 t189 t190 x45_12 = some r) ∧ Aside0 (kq ≤ kj8) ∧ Drawn0 w wc)
          case first =>
            have H := HC13.out
            clear HC13
            by_cases c14 : (wrap64 (bt a0 x3_1)) = 224
            · rw [if_pos c14] at H
              have c14b0 : ((wrap64 (bt a0 x3_1)) == 224) = true := beq_iff_eq.mpr c14
              have c14b1 : ((wrap64 (bt a0 x3_1)) != 224) = false := bne_eq_false_iff_eq.mpr c14
              clear c14
              (first | rw [c14b0] | (simp only [i64_w, i32_w]; rw [c14b0]) | skip)
              replace H := Option.bind_eq_some_iff.mp H
              obtain ⟨t191, A150, H⟩ := H
              replace H : (if t191 = true then (scantlingref03_Utf8.j2 kj8 a0 x3_1 (wrap64 (bt a0 x3_1)) t188 t189 t190 t189) else (scantlingref03_Utf8.j2 kj8 a0 x3_1 (wrap64 (bt a0 x3_1)) t188 t189 t190 false)) = some r := H
              have A15 := Aside0.mk A150
              clear A150
              by_cases c16 : t191 = true
              · subst c16
                have H1 : (scantlingref03_Utf8.j2 kj8 a0 x3_1 (wrap64 (bt a0 x3_1)) t188 t189 t190 t189) = some r := by rw [if_pos rfl] at H; exact H
                clear H
                have H := H1
                clear H1
                as_aux_lemma =>
                  have H' := Aside0.mk H
                  clear H
                  go_wp2_with (first | (go_at_call 24; (with_reducible refine (scantlingref03_in.calls a0 (wrap64 (x3_1 + 1)) 160 191 true _ A15.out).mono ?_); rintro e w' ⟨rfl, ⟨nd, rfl⟩⟩))
                  go_meet
                  case rel => exact ⟨_, (t189), (by first | rfl | (simp; done) | (simp [*]; done) | exact congrArg (Value.int .i64) (by unfold wrap64; omega)), (by first | exact H' | (subst_vars; exact H')), ⟨by have := HK1.out; have := HJ8.out; first | omega | exact Nat.le_refl _⟩, by repeat (first | exact Drawn0.refl _ | apply Drawn0.step)⟩
              · replace c16 := Bool.eq_false_iff.mpr c16
                subst c16
                have H1 : (scantlingref03_Utf8.j2 kj8 a0 x3_1 (wrap64 (bt a0 x3_1)) t188 t189 t190 false) = some r := by rw [if_neg (show ¬ (false = true) by decide)] at H; exact H
                clear H
                have H := H1
                clear H1
                as_aux_lemma =>
                  have H' := Aside0.mk H
                  clear H
                  go_wp2_with (first | (go_at_call 24; (with_reducible refine (scantlingref03_in.calls a0 (wrap64 (x3_1 + 1)) 160 191 false _ A15.out).mono ?_); rintro e w' ⟨rfl, ⟨nd, rfl⟩⟩))
                  go_meet
                  case rel => exact ⟨_, (false), (by first | rfl | (simp; done) | (simp [*]; done) | exact congrArg (Value.int .i64) (by unfold wrap64; omega)), (by first | exact H' | (subst_vars; exact H')), ⟨by have := HK1.out; have := HJ8.out; first | omega | exact Nat.le_refl _⟩, by repeat (first | exact Drawn0.refl _ | apply Drawn0.step)⟩
            · rw [if_neg c14] at H
              have c14b0 : ((wrap64 (bt a0 x3_1)) == 224) = false := beq_eq_false_iff_ne.mpr c14
              have c14b1 : ((wrap64 (bt a0 x3_1)) != 224) = true := bne_iff_ne.mpr c14
              (first | rw [c14b0] | (simp only [i64_w, i32_w]; rw [c14b0]) | skip)
              as_aux_lemma =>
                have H' := Aside0.mk H
                clear H
                go_wp2
                go_meet
                case rel => exact ⟨_, (false), (by first | rfl | (simp; done) | (simp [*]; done) | exact congrArg (Value.int .i64) (by unfold wrap64; omega)), (by first | exact H' | (subst_vars; exact H')), ⟨by have := HK1.out; have := HJ8.out; first | omega | exact Nat.le_refl _⟩, by repeat (first | exact Drawn0.refl _ | apply Drawn0.step)⟩
          case rest =>
            clear HC13
            try clear c2; try clear c2b0; try clear c3; try clear c3b0; try clear p4; try clear q4; try clear hx4; try clear c8; try clear c8b0; try clear c12; try clear p4; try clear q4
            obtain ⟨kq, x45_12, rfl, HA, HJ12, ⟨mc12, rfl⟩⟩ := hcut
            cases kq with
            | zero => exact absurd HA.out (by simp [scantlingref03_Utf8.j2])
            | succ kj12 =>
              have H := HA.out
              clear HA
              simp only [scantlingref03_Utf8.j2] at H
              by_cases c17 : x45_12 = true
              case pos =>
                subst c17
                have H1 : (scantlingref03_Utf8.l0 kj12 a0 (wrap64 (x3_1 + 3))) = some r := by rw [if_pos rfl] at H; exact H
                clear H
                have H := H1
                clear H1
                as_aux_lemma =>
                  have H' := Aside0.mk H
                  clear H
                  go_wp2
                  go_roundg kj12
                  case measure => have := HK1.out; have := HJ8.out; have := HJ12.out; omega
                  case rel => exact ⟨(wrap64 (x3_1 + 3)), (by first | rfl | (simp; done) | (simp [*]; done) | exact congrArg (Value.int .i64) (by unfold wrap64; omega)), (by first | exact H' | (subst_vars; exact H')), ⟨by have := HK1.out; have := HJ8.out; have := HJ12.out; omega⟩, by repeat (first | exact Drawn0.refl _ | apply Drawn0.step)⟩
              replace c17 := Bool.eq_false_iff.mpr c17
              subst c17
              have H1 : (if (wrap64 (bt a0 x3_1)) ≥ 225 then (if (wrap64 (bt a0 x3_1)) ≤ 236 then (if t188 = true then (scantlingref03_Utf8.j3 kj12 a0 x3_1 (wrap64 (bt a0 x3_1)) t188 t189 t190 t189) else (scantlingref03_Utf8.j3 kj12 a0 x3_1 (wrap64 (bt a0 x3_1)) t188 t189 t190 false)) else (if (wrap64 (bt a0 x3_1)) = 238 then (if t188 = true then (scantlingref03_Utf8.j3 kj12 a0 x3_1 (wrap64 (bt a0 x3_1)) t188 t189 t190 t189) else (scantlingref03_Utf8.j3 kj12 a0 x3_1 (wrap64 (bt a0 x3_1)) t188 t189 t190 false)) else (if (wrap64 (bt a0 x3_1)) = 239 then (if t188 = true then (scantlingref03_Utf8.j3 kj12 a0 x3_1 (wrap64 (bt a0 x3_1)) t188 t189 t190 t189) else (scantlingref03_Utf8.j3 kj12 a0 x3_1 (wrap64 (bt a0 x3_1)) t188 t189 t190 false)) else (scantlingref03_Utf8.j3 kj12 a0 x3_1 (wrap64 (bt a0 x3_1)) t188 t189 t190 false)))) else (if (wrap64 (bt a0 x3_1)) = 238 then (if t188 = true then (scantlingref03_Utf8.j3 kj12 a0 x3_1 (wrap64 (bt a0 x3_1)) t188 t189 t190 t189) else (scantlingref03_Utf8.j3 kj12 a0 x3_1 (wrap64 (bt a0 x3_1)) t188 t189 t190 false)) else (if (wrap64 (bt a0 x3_1)) = 239 then (if t188 = true then (scantlingref03_Utf8.j3 kj12 a0 x3_1 (wrap64 (bt a0 x3_1)) t188 t189 t190 t189) else (scantlingref03_Utf8.j3 kj12 a0 x3_1 (wrap64 (bt a0 x3_1)) t188 t189 t190 false)) else (scantlingref03_Utf8.j3 kj12 a0 x3_1 (wrap64 (bt a0 x3_1)) t188 t189 t190 false)))) = some r := by rw [if_neg (show ¬ (false = true) by decide)] at H; exact H
              clear H
              have H := H1
              clear H1
              have HC18 := Aside0.mk H
              clear H
              go_upto_region 14 with (fail)
              go_cut [59] (fun v59 wc => ∃ (kq : Nat) (x59_17 : Bool), v59 = .bool x59_17 ∧ Aside0 (scantlingref03_Utf8.j3 kq a0 x3_1 (wrap64 (bt a0 x3_1)) t188 t189 t190 x59_17 = some r) ∧ Aside0 (kq ≤ kj12) ∧ Drawn0 w wc)
              case first =>
                have H := HC18.out
                clear HC18
                by_cases c19 : (wrap64 (bt a0 x3_1)) ≥ 225
                · rw [if_pos c19] at H
                  have c19b0 : decide (225 ≤ (wrap64 (bt a0 x3_1))) = true := decide_eq_true c19
                  clear c19
                  (first | rw [c19b0] | (simp only [i64_w, i32_w]; rw [c19b0]) | skip)
                  by_cases c20 : (wrap64 (bt a0 x3_1)) ≤ 236
                  · rw [if_pos c20] at H
                    have c20b0 : decide ((wrap64 (bt a0 x3_1)) ≤ 236) = true := decide_eq_true c20
                    clear c20
                    by_cases c21 : t188 = true
                    · subst c21
                      have H1 : (scantlingref03_Utf8.j3 kj12 a0 x3_1 (wrap64 (bt a0 x3_1)) true t189 t190 t189) = some r := by rw [if_pos rfl] at H; exact H
                      clear H
                      have H := H1
                      clear H1
                      as_aux_lemma =>
                        have H' := Aside0.mk H
                        clear H
                        go_wp2
                        go_meet
                        case rel => exact ⟨_, (t189), (by first | rfl | (simp; done) | (simp [*]; done) | exact congrArg (Value.int .i64) (by unfold wrap64; omega)), (by first | exact H' | (subst_vars; exact H')), ⟨by have := HK1.out; have := HJ8.out; have := HJ12.out; first | omega | exact Nat.le_refl _⟩, by repeat (first | exact Drawn0.refl _ | apply Drawn0.step)⟩
                    · replace c21 := Bool.eq_false_iff.mpr c21
                      subst c21
                      have H1 : (scantlingref03_Utf8.j3 kj12 a0 x3_1 (wrap64 (bt a0 x3_1)) false t189 t190 false) = some r := by rw [if_neg (show ¬ (false = true) by decide)] at H; exact H
                      clear H
                      have H := H1
                      clear H1
                      as_aux_lemma =>
                        have H' := Aside0.mk H
                        clear H
                        go_wp2
                        go_meet
                        case rel => exact ⟨_, (false), (by first | rfl | (simp; done) | (simp [*]; done) | exact congrArg (Value.int .i64) (by unfold wrap64; omega)), (by first | exact H' | (subst_vars; exact H')), ⟨by have := HK1.out; have := HJ8.out; have := HJ12.out; first | omega | exact Nat.le_refl _⟩, by repeat (first | exact Drawn0.refl _ | apply Drawn0.step)⟩
                  · rw [if_neg c20] at H
                    have c20b0 : decide ((wrap64 (bt a0 x3_1)) ≤ 236) = false := decide_eq_false c20
                    clear c20
                    by_cases c22 : (wrap64 (bt a0 x3_1)) = 238
                    · rw [if_pos c22] at H
                      have c22b0 : ((wrap64 (bt a0 x3_1)) == 238) = true := beq_iff_eq.mpr c22
                      have c22b1 : ((wrap64 (bt a0 x3_1)) != 238) = false := bne_eq_false_iff_eq.mpr c22
                      clear c22
                      by_cases c23 : t188 = true
                      · subst c23
                        have H1 : (scantlingref03_Utf8.j3 kj12 a0 x3_1 (wrap64 (bt a0 x3_1)) true t189 t190 t189) = some r := by rw [if_pos rfl] at H; exact H
                        clear H
                        have H := H1
                        clear H1
                        as_aux_lemma =>
                          have H' := Aside0.mk H
                          clear H
                          go_wp2
                          go_meet
                          case rel => exact ⟨_, (t189), (by first | rfl | (simp; done) | (simp [*]; done) | exact congrArg (Value.int .i64) (by unfold wrap64; omega)), (by first | exact H' | (subst_vars; exact H')), ⟨by have := HK1.out; have := HJ8.out; have := HJ12.out; first | omega | exact Nat.le_refl _⟩, by repeat (first | exact Drawn0.refl _ | apply Drawn0.step)⟩
                      · replace c23 := Bool.eq_false_iff.mpr c23
                        subst c23
                        have H1 : (scantlingref03_Utf8.j3 kj12 a0 x3_1 (wrap64 (bt a0 x3_1)) false t189 t190 false) = some r := by rw [if_neg (show ¬ (false = true) by decide)] at H; exact H
                        clear H
                        have H := H1
                        clear H1
                        as_aux_lemma =>
                          have H' := Aside0.mk H
                          clear H
                          go_wp2
                          go_meet
                          case rel => exact ⟨_, (false), (by first | rfl | (simp; done) | (simp [*]; done) | exact congrArg (Value.int .i64) (by unfold wrap64; omega)), (by first | exact H' | (subst_vars; exact H')), ⟨by have := HK1.out; have := HJ8.out; have := HJ12.out; first | omega | exact Nat.le_refl _⟩, by repeat (first | exact Drawn0.refl _ | apply Drawn0.step)⟩
                    · rw [if_neg c22] at H
                      have c22b0 : ((wrap64 (bt a0 x3_1)) == 238) = false := beq_eq_false_iff_ne.mpr c22
                      have c22b1 : ((wrap64 (bt a0 x3_1)) != 238) = true := bne_iff_ne.mpr c22
                      by_cases c24 : (wrap64 (bt a0 x3_1)) = 239
                      · rw [if_pos c24] at H
                        have c24b0 : ((wrap64 (bt a0 x3_1)) == 239) = true := beq_iff_eq.mpr c24
                        have c24b1 : ((wrap64 (bt a0 x3_1)) != 239) = false := bne_eq_false_iff_eq.mpr c24
                        clear c24
                        by_cases c25 : t188 = true
                        · subst c25
                          have H1 : (scantlingref03_Utf8.j3 kj12 a0 x3_1 (wrap64 (bt a0 x3_1)) true t189 t190 t189) = some r := by rw [if_pos rfl] at H; exact H
                          clear H
                          have H := H1
                          clear H1
                          as_aux_lemma =>
                            have H' := Aside0.mk H
                            clear H
                            go_wp2
                            go_meet
                            case rel => exact ⟨_, (t189), (by first | rfl | (simp; done) | (simp [*]; done) | exact congrArg (Value.int .i64) (by unfold wrap64; omega)), (by first | exact H' | (subst_vars; exact H')), ⟨by have := HK1.out; have := HJ8.out; have := HJ12.out; first | omega | exact Nat.le_refl _⟩, by repeat (first | exact Drawn0.refl _ | apply Drawn0.step)⟩
                        · replace c25 := Bool.eq_false_iff.mpr c25
                          subst c25
                          have H1 : (scantlingref03_Utf8.j3 kj12 a0 x3_1 (wrap64 (bt a0 x3_1)) false t189 t190 false) = some r := by rw [if_neg (show ¬ (false = true) by decide)] at H; exact H
                          clear H
                          have H := H1
                          clear H1
                          as_aux_lemma =>
                            have H' := Aside0.mk H
                            clear H
                            go_wp2
                            go_meet
                            case rel => exact ⟨_, (false), (by first | rfl | (simp; done) | (simp [*]; done) | exact congrArg (Value.int .i64) (by unfold wrap64; omega)), (by first | exact H' | (subst_vars; exact H')), ⟨by have := HK1.out; have := HJ8.out; have := HJ12.out; first | omega | exact Nat.le_refl _⟩, by repeat (first | exact Drawn0.refl _ | apply Drawn0.step)⟩
                      · rw [if_neg c24] at H
                        have c24b0 : ((wrap64 (bt a0 x3_1)) == 239) = false := beq_eq_false_iff_ne.mpr c24
                        have c24b1 : ((wrap64 (bt a0 x3_1)) != 239) = true := bne_iff_ne.mpr c24
                        as_aux_lemma =>
                          have H' := Aside0.mk H
                          clear H
                          go_wp2
                          go_meet
                          case rel => exact ⟨_, (false), (by first | rfl | (simp; done) | (simp [*]; done) | exact congrArg (Value.int .i64) (by unfold wrap64; omega)), (by first | exact H' | (subst_vars; exact H')), ⟨by have := HK1.out; have := HJ8.out; have := HJ12.out; first | omega | exact Nat.le_refl _⟩, by repeat (first | exact Drawn0.refl _ | apply Drawn0.step)⟩
                · rw [if_neg c19] at H
                  have c19b0 : decide (225 ≤ (wrap64 (bt a0 x3_1))) = false := decide_eq_false c19
                  clear c19
                  (first | rw [c19b0] | (simp only [i64_w, i32_w]; rw [c19b0]) | skip)
                  by_cases c26 : (wrap64 (bt a0 x3_1)) = 238
                  · rw [if_pos c26] at H
                    have c26b0 : ((wrap64 (bt a0 x3_1)) == 238) = true := beq_iff_eq.mpr c26
                    have c26b1 : ((wrap64 (bt a0 x3_1)) != 238) = false := bne_eq_false_iff_eq.mpr c26
                    clear c26
                    by_cases c27 : t188 = true
                    · subst c27
                      have H1 : (scantlingref03_Utf8.j3 kj12 a0 x3_1 (wrap64 (bt a0 x3_1)) true t189 t190 t189) = some r := by rw [if_pos rfl] at H; exact H
                      clear H
                      have H := H1
                      clear H1
                      as_aux_lemma =>
                        have H' := Aside0.mk H
                        clear H
                        go_wp2
                        go_meet
                        case rel => exact ⟨_, (t189), (by first | rfl | (simp; done) | (simp [*]; done) | exact congrArg (Value.int .i64) (by unfold wrap64; omega)), (by first | exact H' | (subst_vars; exact H')), ⟨by have := HK1.out; have := HJ8.out; have := HJ12.out; first | omega | exact Nat.le_refl _⟩, by repeat (first | exact Drawn0.refl _ | apply Drawn0.step)⟩
                    · replace c27 := Bool.eq_false_iff.mpr c27
                      subst c27
                      have H1 : (scantlingref03_Utf8.j3 kj12 a0 x3_1 (wrap64 (bt a0 x3_1)) false t189 t190 false) = some r := by rw [if_neg (show ¬ (false = true) by decide)] at H; exact H
                      clear H
                      have H := H1
                      clear H1
                      as_aux_lemma =>
                        have H' := Aside0.mk H
                        clear H
                        go_wp2
                        go_meet
                        case rel => exact ⟨_, (false), (by first | rfl | (simp; done) | (simp [*]; done) | exact congrArg (Value.int .i64) (by unfold wrap64; omega)), (by first | exact H' | (subst_vars; exact H')), ⟨by have := HK1.out; have := HJ8.out; have := HJ12.out; first | omega | exact Nat.le_refl _⟩, by repeat (first | exact Drawn0.refl _ | apply Drawn0.step)⟩
                  · rw [if_neg c26] at H
                    have c26b0 : ((wrap64 (bt a0 x3_1)) == 238) = false := beq_eq_false_iff_ne.mpr c26
                    have c26b1 : ((wrap64 (bt a0 x3_1)) != 238) = true := bne_iff_ne.mpr c26
                    by_cases c28 : (wrap64 (bt a0 x3_1)) = 239
                    · rw [if_pos c28] at H
                      have c28b0 : ((wrap64 (bt a0 x3_1)) == 239) = true := beq_iff_eq.mpr c28
                      have c28b1 : ((wrap64 (bt a0 x3_1)) != 239) = false := bne_eq_false_iff_eq.mpr c28
                      clear c28
                      by_cases c29 : t188 = true
                      · subst c29
                        have H1 : (scantlingref03_Utf8.j3 kj12 a0 x3_1 (wrap64 (bt a0 x3_1)) true t189 t190 t189) = some r := by rw [if_pos rfl] at H; exact H
                        clear H
                        have H := H1
                        clear H1
                        as_aux_lemma =>
                          have H' := Aside0.mk H
                          clear H
                          go_wp2
                          go_meet
                          case rel => exact ⟨_, (t189), (by first | rfl | (simp; done) | (simp [*]; done) | exact congrArg (Value.int .i64) (by unfold wrap64; omega)), (by first | exact H' | (subst_vars; exact H')), ⟨by have := HK1.out; have := HJ8.out; have := HJ12.out; first | omega | exact Nat.le_refl _⟩, by repeat (first | exact Drawn0.refl _ | apply Drawn0.step)⟩
                      · replace c29 := Bool.eq_false_iff.mpr c29
                        subst c29
                        have H1 : (scantlingref03_Utf8.j3 kj12 a0 x3_1 (wrap64 (bt a0 x3_1)) false t189 t190 false) = some r := by rw [if_neg (show ¬ (false = true) by decide)] at H; exact H
                        clear H
                        have H := H1
                        clear H1
                        as_aux_lemma =>
                          have H' := Aside0.mk H
                          clear H
                          go_wp2
                          go_meet
                          case rel => exact ⟨_, (false), (by first | rfl | (simp; done) | (simp [*]; done) | exact congrArg (Value.int .i64) (by unfold wrap64; omega)), (by first | exact H' | (subst_vars; exact H')), ⟨by have := HK1.out; have := HJ8.out; have := HJ12.out; first | omega | exact Nat.le_refl _⟩, by repeat (first | exact Drawn0.refl _ | apply Drawn0.step)⟩
                    · rw [if_neg c28] at H
                      have c28b0 : ((wrap64 (bt a0 x3_1)) == 239) = false := beq_eq_false_iff_ne.mpr c28
                      have c28b1 : ((wrap64 (bt a0 x3_1)) != 239) = true := bne_iff_ne.mpr c28
                      as_aux_lemma =>
                        have H' := Aside0.mk H
                        clear H
                        go_wp2
                        go_meet
                        case rel => exact ⟨_, (false), (by first | rfl | (simp; done) | (simp [*]; done) | exact congrArg (Value.int .i64) (by unfold wrap64; omega)), (by first | exact H' | (subst_vars; exact H')), ⟨by have := HK1.out; have := HJ8.out; have := HJ12.out; first | omega | exact Nat.le_refl _⟩, by repeat (first | exact Drawn0.refl _ | apply Drawn0.step)⟩
              case rest =>
                clear HC18
                try clear c2; try clear c2b0; try clear c3; try clear c3b0; try clear p4; try clear q4; try clear hx4; try clear c8; try clear c8b0; try clear c12; try clear c17; try clear p4; try clear q4
                obtain ⟨kq, x59_17, rfl, HA, HJ17, ⟨mc17, rfl⟩⟩ := hcut
                cases kq with
                | zero => exact absurd HA.out (by simp [scantlingref03_Utf8.j3])
                | succ kj17 =>
                  have H := HA.out
                  clear HA
                  simp only [scantlingref03_Utf8.j3] at H
                  by_cases c30 : x59_17 = true
                  case pos =>
                    subst c30
                    have H1 : (scantlingref03_Utf8.l0 kj17 a0 (wrap64 (x3_1 + 3))) = some r := by rw [if_pos rfl] at H; exact H
                    clear H
                    have H := H1
                    clear H1
                    as_aux_lemma =>
                      have H' := Aside0.mk H
                      clear H
                      go_wp2
                      go_roundg kj17
                      case measure => have := HK1.out; have := HJ8.out; have := HJ12.out; have := HJ17.out; omega
                      case rel => exact ⟨(wrap64 (x3_1 + 3)), (by first | rfl | (simp; done) | (simp [*]; done) | exact congrArg (Value.int .i64) (by unfold wrap64; omega)), (by first | exact H' | (subst_vars; exact H')), ⟨by have := HK1.out; have := HJ8.out; have := HJ12.out; have := HJ17.out; omega⟩, by repeat (first | exact Drawn0.refl _ | apply Drawn0.step)⟩
                  replace c30 := Bool.eq_false_iff.mpr c30
                  subst c30
                  have H1 : (if (wrap64 (bt a0 x3_1)) = 237 then ((scantlingref03_in.f a0 (wrap64 (x3_1 + 1)) 128 159).bind fun t192 => (if t192 = true then (scantlingref03_Utf8.j4 kj17 a0 x3_1 (wrap64 (bt a0 x3_1)) t188 t189 t190 t189) else (scantlingref03_Utf8.j4 kj17 a0 x3_1 (wrap64 (bt a0 x3_1)) t188 t189 t190 false))) else (scantlingref03_Utf8.j4 kj17 a0 x3_1 (wrap64 (bt a0 x3_1)) t188 t189 t190 false)) = some r := by rw [if_neg (show ¬ (false = true) by decide)] at H; exact H
                  clear H
                  have H := H1
                  clear H1
                  have HC31 := Aside0.mk H
                  clear H
                  go_upto_region 16 with (fail)
                  go_cut [82] (fun v82 wc => ∃ (kq : Nat) (x82_30 : Bool), v82 = .bool x82_30 ∧ Aside0 (scantlingref03_Utf8.j4 kq a0 x3_1 (wrap64 (bt a0 x3_1)) t188 t189 t190 x82_30 = some r) ∧ Aside0 (kq ≤ kj17) ∧ Drawn0 w wc)
                  case first =>
                    have H := HC31.out
                    clear HC31
                    by_cases c32 : (wrap64 (bt a0 x3_1)) = 237
                    · rw [if_pos c32] at H
                      have c32b0 : ((wrap64 (bt a0 x3_1)) == 237) = true := beq_iff_eq.mpr c32
                      have c32b1 : ((wrap64 (bt a0 x3_1)) != 237) = false := bne_eq_false_iff_eq.mpr c32
                      clear c32
                      (first | rw [c32b0] | (simp only [i64_w, i32_w]; rw [c32b0]) | skip)
                      replace H := Option.bind_eq_some_iff.mp H
                      obtain ⟨t192, A330, H⟩ := H
                      replace H : (if t192 = true then (scantlingref03_Utf8.j4 kj17 a0 x3_1 (wrap64 (bt a0 x3_1)) t188 t189 t190 t189) else (scantlingref03_Utf8.j4 kj17 a0 x3_1 (wrap64 (bt a0 x3_1)) t188 t189 t190 false)) = some r := H
                      have A33 := Aside0.mk A330
                      clear A330
                      by_cases c34 : t192 = true
                      · subst c34
                        have H1 : (scantlingref03_Utf8.j4 kj17 a0 x3_1 (wrap64 (bt a0 x3_1)) t188 t189 t190 t189) = some r := by rw [if_pos rfl] at H; exact H
                        clear H
                        have H := H1
                        clear H1
                        as_aux_lemma =>
                          have H' := Aside0.mk H
                          clear H
                          go_wp2_with (first | (go_at_call 24; (with_reducible refine (scantlingref03_in.calls a0 (wrap64 (x3_1 + 1)) 128 159 true _ A33.out).mono ?_); rintro e w' ⟨rfl, ⟨nd, rfl⟩⟩))
                          go_meet
                          case rel => exact ⟨_, (t189), (by first | rfl | (simp; done) | (simp [*]; done) | exact congrArg (Value.int .i64) (by unfold wrap64; omega)), (by first | exact H' | (subst_vars; exact H')), ⟨by have := HK1.out; have := HJ8.out; have := HJ12.out; have := HJ17.out; first | omega | exact Nat.le_refl _⟩, by repeat (first | exact Drawn0.refl _ | apply Drawn0.step)⟩
                      · replace c34 := Bool.eq_false_iff.mpr c34
                        subst c34
                        have H1 : (scantlingref03_Utf8.j4 kj17 a0 x3_1 (wrap64 (bt a0 x3_1)) t188 t189 t190 false) = some r := by rw [if_neg (show ¬ (false = true) by decide)] at H; exact H
                        clear H
                        have H := H1
                        clear H1
                        as_aux_lemma =>
                          have H' := Aside0.mk H
                          clear H
                          go_wp2_with (first | (go_at_call 24; (with_reducible refine (scantlingref03_in.calls a0 (wrap64 (x3_1 + 1)) 128 159 false _ A33.out).mono ?_); rintro e w' ⟨rfl, ⟨nd, rfl⟩⟩))
                          go_meet
                          case rel => exact ⟨_, (false), (by first | rfl | (simp; done) | (simp [*]; done) | exact congrArg (Value.int .i64) (by unfold wrap64; omega)), (by first | exact H' | (subst_vars; exact H')), ⟨by have := HK1.out; have := HJ8.out; have := HJ12.out; have := HJ17.out; first | omega | exact Nat.le_refl _⟩, by repeat (first | exact Drawn0.refl _ | apply Drawn0.step)⟩
                    · rw [if_neg c32] at H
                      have c32b0 : ((wrap64 (bt a0 x3_1)) == 237) = false := beq_eq_false_iff_ne.mpr c32
                      have c32b1 : ((wrap64 (bt a0 x3_1)) != 237) = true := bne_iff_ne.mpr c32
                      (first | rw [c32b0] | (simp only [i64_w, i32_w]; rw [c32b0]) | skip)
                      as_aux_lemma =>
                        have H' := Aside0.mk H
                        clear H
                        go_wp2
                        go_meet
                        case rel => exact ⟨_, (false), (by first | rfl | (simp; done) | (simp [*]; done) | exact congrArg (Value.int .i64) (by unfold wrap64; omega)), (by first | exact H' | (subst_vars; exact H')), ⟨by have := HK1.out; have := HJ8.out; have := HJ12.out; have := HJ17.out; first | omega | exact Nat.le_refl _⟩, by repeat (first | exact Drawn0.refl _ | apply Drawn0.step)⟩
                  case rest =>
                    clear HC31
                    try clear c2; try clear c2b0; try clear c3; try clear c3b0; try clear p4; try clear q4; try clear hx4; try clear c8; try clear c8b0; try clear c12; try clear c17; try clear c30; try clear p4; try clear q4
                    obtain ⟨kq, x82_30, rfl, HA, HJ30, ⟨mc30, rfl⟩⟩ := hcut
                    cases kq with
                    | zero => exact absurd HA.out (by simp [scantlingref03_Utf8.j4])
                    | succ kj30 =>
                      have H := HA.out
                      clear HA
                      simp only [scantlingref03_Utf8.j4] at H
                      by_cases c35 : x82_30 = true
                      case pos =>
                        subst c35
                        have H1 : (scantlingref03_Utf8.l0 kj30 a0 (wrap64 (x3_1 + 3))) = some r := by rw [if_pos rfl] at H; exact H
                        clear H
                        have H := H1
                        clear H1
                        as_aux_lemma =>
                          have H' := Aside0.mk H
                          clear H
                          go_wp2
                          go_roundg kj30
                          case measure => have := HK1.out; have := HJ8.out; have := HJ12.out; have := HJ17.out; have := HJ30.out; omega
                          case rel => exact ⟨(wrap64 (x3_1 + 3)), (by first | rfl | (simp; done) | (simp [*]; done) | exact congrArg (Value.int .i64) (by unfold wrap64; omega)), (by first | exact H' | (subst_vars; exact H')), ⟨by have := HK1.out; have := HJ8.out; have := HJ12.out; have := HJ17.out; have := HJ30.out; omega⟩, by repeat (first | exact Drawn0.refl _ | apply Drawn0.step)⟩
                      replace c35 := Bool.eq_false_iff.mpr c35
                      subst c35
                      have H1 : (if (wrap64 (bt a0 x3_1)) = 240 then ((scantlingref03_in.f a0 (wrap64 (x3_1 + 1)) 144 191).bind fun t193 => (if t193 = true then (if t189 = true then (scantlingref03_Utf8.j5 kj30 a0 x3_1 (wrap64 (bt a0 x3_1)) t188 t189 t190 t190) else (scantlingref03_Utf8.j5 kj30 a0 x3_1 (wrap64 (bt a0 x3_1)) t188 t189 t190 false)) else (scantlingref03_Utf8.j5 kj30 a0 x3_1 (wrap64 (bt a0 x3_1)) t188 t189 t190 false))) else (scantlingref03_Utf8.j5 kj30 a0 x3_1 (wrap64 (bt a0 x3_1)) t188 t189 t190 false)) = some r := by rw [if_neg (show ¬ (false = true) by decide)] at H; exact H
                      clear H
                      have H := H1
                      clear H1
                      have HC36 := Aside0.mk H
                      clear H
                      go_upto_region 18 with (fail)
                      go_cut [96] (fun v96 wc => ∃ (kq : Nat) (x96_35 : Bool), v96 = .bool x96_35 ∧ Aside0 (scantlingref03_Utf8.j5 kq a0 x3_1 (wrap64 (bt a0 x3_1)) t188 t189 t190 x96_35 = some r) ∧ Aside0 (kq ≤ kj30) ∧ Drawn0 w wc)
                      case first =>
                        have H := HC36.out
                        clear HC36
                        by_cases c37 : (wrap64 (bt a0 x3_1)) = 240
                        · rw [if_pos c37] at H
                          have c37b0 : ((wrap64 (bt a0 x3_1)) == 240) = true := beq_iff_eq.mpr c37
                          have c37b1 : ((wrap64 (bt a0 x3_1)) != 240) = false := bne_eq_false_iff_eq.mpr c37
                          clear c37
                          (first | rw [c37b0] | (simp only [i64_w, i32_w]; rw [c37b0]) | skip)
                          replace H := Option.bind_eq_some_iff.mp H
                          obtain ⟨t193, A380, H⟩ := H
                          replace H : (if t193 = true then (if t189 = true then (scantlingref03_Utf8.j5 kj30 a0 x3_1 (wrap64 (bt a0 x3_1)) t188 t189 t190 t190) else (scantlingref03_Utf8.j5 kj30 a0 x3_1 (wrap64 (bt a0 x3_1)) t188 t189 t190 false)) else (scantlingref03_Utf8.j5 kj30 a0 x3_1 (wrap64 (bt a0 x3_1)) t188 t189 t190 false)) = some r := H
                          have A38 := Aside0.mk A380
                          clear A380
                          by_cases c39 : t193 = true
                          · subst c39
                            have H1 : (if t189 = true then (scantlingref03_Utf8.j5 kj30 a0 x3_1 (wrap64 (bt a0 x3_1)) t188 t189 t190 t190) else (scantlingref03_Utf8.j5 kj30 a0 x3_1 (wrap64 (bt a0 x3_1)) t188 t189 t190 false)) = some r := by rw [if_pos rfl] at H; exact H
                            clear H
                            have H := H1
                            clear H1
                            by_cases c40 : t189 = true
                            · subst c40
                              have H1 : (scantlingref03_Utf8.j5 kj30 a0 x3_1 (wrap64 (bt a0 x3_1)) t188 true t190 t190) = some r := by rw [if_pos rfl] at H; exact H
                              clear H
                              have H := H1
                              clear H1
                              as_aux_lemma =>
                                have H' := Aside0.mk H
                                clear H
                                go_wp2_with (first | (go_at_call 24; (with_reducible refine (scantlingref03_in.calls a0 (wrap64 (x3_1 + 1)) 144 191 true _ A38.out).mono ?_); rintro e w' ⟨rfl, ⟨nd, rfl⟩⟩))
                                go_meet
                                case rel => exact ⟨_, (t190), (by first | rfl | (simp; done) | (simp [*]; done) | exact congrArg (Value.int .i64) (by unfold wrap64; omega)), (by first | exact H' | (subst_vars; exact H')), ⟨by have := HK1.out; have := HJ8.out; have := HJ12.out; have := HJ17.out; have := HJ30.out; first | omega | exact Nat.le_refl _⟩, by repeat (first | exact Drawn0.refl _ | apply Drawn0.step)⟩
                            · replace c40 := Bool.eq_false_iff.mpr c40
                              subst c40
                              have H1 : (scantlingref03_Utf8.j5 kj30 a0 x3_1 (wrap64 (bt a0 x3_1)) t188 false t190 false) = some r := by rw [if_neg (show ¬ (false = true) by decide)] at H; exact H
                              clear H
                              have H := H1
                              clear H1
                              as_aux_lemma =>
                                have H' := Aside0.mk H
                                clear H
                                go_wp2_with (first | (go_at_call 24; (with_reducible refine (scantlingref03_in.calls a0 (wrap64 (x3_1 + 1)) 144 191 true _ A38.out).mono ?_); rintro e w' ⟨rfl, ⟨nd, rfl⟩⟩))
                                go_meet
                                case rel => exact ⟨_, (false), (by first | rfl | (simp; done) | (simp [*]; done) | exact congrArg (Value.int .i64) (by unfold wrap64; omega)), (by first | exact H' | (subst_vars; exact H')), ⟨by have := HK1.out; have := HJ8.out; have := HJ12.out; have := HJ17.out; have := HJ30.out; first | omega | exact Nat.le_refl _⟩, by repeat (first | exact Drawn0.refl _ | apply Drawn0.step)⟩
                          · replace c39 := Bool.eq_false_iff.mpr c39
                            subst c39
                            have H1 : (scantlingref03_Utf8.j5 kj30 a0 x3_1 (wrap64 (bt a0 x3_1)) t188 t189 t190 false) = some r := by rw [if_neg (show ¬ (false = true) by decide)] at H; exact H
                            clear H
                            have H := H1
                            clear H1
                            as_aux_lemma =>
                              have H' := Aside0.mk H
                              clear H
                              go_wp2_with (first | (go_at_call 24; (with_reducible refine (scantlingref03_in.calls a0 (wrap64 (x3_1 + 1)) 144 191 false _ A38.out).mono ?_); rintro e w' ⟨rfl, ⟨nd, rfl⟩⟩))
                              go_meet
                              case rel => exact ⟨_, (false), (by first | rfl | (simp; done) | (simp [*]; done) | exact congrArg (Value.int .i64) (by unfold wrap64; omega)), (by first | exact H' | (subst_vars; exact H')), ⟨by have := HK1.out; have := HJ8.out; have := HJ12.out; have := HJ17.out; have := HJ30.out; first | omega | exact Nat.le_refl _⟩, by repeat (first | exact Drawn0.refl _ | apply Drawn0.step)⟩
                        · rw [if_neg c37] at H
                          have c37b0 : ((wrap64 (bt a0 x3_1)) == 240) = false := beq_eq_false_iff_ne.mpr c37
                          have c37b1 : ((wrap64 (bt a0 x3_1)) != 240) = true := bne_iff_ne.mpr c37
                          (first | rw [c37b0] | (simp only [i64_w, i32_w]; rw [c37b0]) | skip)
                          as_aux_lemma =>
                            have H' := Aside0.mk H
                            clear H
                            go_wp2
                            go_meet
                            case rel => exact ⟨_, (false), (by first | rfl | (simp; done) | (simp [*]; done) | exact congrArg (Value.int .i64) (by unfold wrap64; omega)), (by first | exact H' | (subst_vars; exact H')), ⟨by have := HK1.out; have := HJ8.out; have := HJ12.out; have := HJ17.out; have := HJ30.out; first | omega | exact Nat.le_refl _⟩, by repeat (first | exact Drawn0.refl _ | apply Drawn0.step)⟩
                      case rest =>
                        clear HC36
                        try clear c2; try clear c2b0; try clear c3; try clear c3b0; try clear p4; try clear q4; try clear hx4; try clear c8; try clear c8b0; try clear c12; try clear c17; try clear c30; try clear c35; try clear p4; try clear q4
                        obtain ⟨kq, x96_35, rfl, HA, HJ35, ⟨mc35, rfl⟩⟩ := hcut
                        cases kq with
                        | zero => exact absurd HA.out (by simp [scantlingref03_Utf8.j5])
                        | succ kj35 =>
                          have H := HA.out
                          clear HA
                          simp only [scantlingref03_Utf8.j5] at H
                          by_cases c41 : x96_35 = true
                          case pos =>
                            subst c41
                            have H1 : (scantlingref03_Utf8.l0 kj35 a0 (wrap64 (x3_1 + 4))) = some r := by rw [if_pos rfl] at H; exact H
                            clear H
                            have H := H1
                            clear H1
                            as_aux_lemma =>
                              have H' := Aside0.mk H
                              clear H
                              go_wp2
                              go_roundg kj35
                              case measure => have := HK1.out; have := HJ8.out; have := HJ12.out; have := HJ17.out; have := HJ30.out; have := HJ35.out; omega
                              case rel => exact ⟨(wrap64 (x3_1 + 4)), (by first | rfl | (simp; done) | (simp [*]; done) | exact congrArg (Value.int .i64) (by unfold wrap64; omega)), (by first | exact H' | (subst_vars; exact H')), ⟨by have := HK1.out; have := HJ8.out; have := HJ12.out; have := HJ17.out; have := HJ30.out; have := HJ35.out; omega⟩, by repeat (first | exact Drawn0.refl _ | apply Drawn0.step)⟩
                          replace c41 := Bool.eq_false_iff.mpr c41
                          subst c41
                          have H1 : (if (wrap64 (bt a0 x3_1)) ≥ 241 then (if (wrap64 (bt a0 x3_1)) ≤ 243 then (if t188 = true then (if t189 = true then (scantlingref03_Utf8.j6 kj35 a0 x3_1 (wrap64 (bt a0 x3_1)) t189 t190 t190) else (scantlingref03_Utf8.j6 kj35 a0 x3_1 (wrap64 (bt a0 x3_1)) t189 t190 false)) else (scantlingref03_Utf8.j6 kj35 a0 x3_1 (wrap64 (bt a0 x3_1)) t189 t190 false)) else (scantlingref03_Utf8.j6 kj35 a0 x3_1 (wrap64 (bt a0 x3_1)) t189 t190 false)) else (scantlingref03_Utf8.j6 kj35 a0 x3_1 (wrap64 (bt a0 x3_1)) t189 t190 false)) = some r := by rw [if_neg (show ¬ (false = true) by decide)] at H; exact H
                          clear H
                          have H := H1
                          clear H1
                          have HC42 := Aside0.mk H
                          clear H
                          go_upto_region 20 with (fail)
                          go_cut [113] (fun v113 wc => ∃ (kq : Nat) (x113_41 : Bool), v113 = .bool x113_41 ∧ Aside0 (scantlingref03_Utf8.j6 kq a0 x3_1 (wrap64 (bt a0 x3_1)) t189 t190 x113_41 = some r) ∧ Aside0 (kq ≤ kj35) ∧ Drawn0 w wc)
                          case first =>
                            have H := HC42.out
                            clear HC42
                            by_cases c43 : (wrap64 (bt a0 x3_1)) ≥ 241
                            · rw [if_pos c43] at H
                              have c43b0 : decide (241 ≤ (wrap64 (bt a0 x3_1))) = true := decide_eq_true c43
                              clear c43
                              (first | rw [c43b0] | (simp only [i64_w, i32_w]; rw [c43b0]) | skip)
                              by_cases c44 : (wrap64 (bt a0 x3_1)) ≤ 243
                              · rw [if_pos c44] at H
                                have c44b0 : decide ((wrap64 (bt a0 x3_1)) ≤ 243) = true := decide_eq_true c44
                                clear c44
                                by_cases c45 : t188 = true
                                · subst c45
                                  have H1 : (if t189 = true then (scantlingref03_Utf8.j6 kj35 a0 x3_1 (wrap64 (bt a0 x3_1)) t189 t190 t190) else (scantlingref03_Utf8.j6 kj35 a0 x3_1 (wrap64 (bt a0 x3_1)) t189 t190 false)) = some r := by rw [if_pos rfl] at H; exact H
                                  clear H
                                  have H := H1
                                  clear H1
                                  by_cases c46 : t189 = true
                                  · subst c46
                                    have H1 : (scantlingref03_Utf8.j6 kj35 a0 x3_1 (wrap64 (bt a0 x3_1)) true t190 t190) = some r := by rw [if_pos rfl] at H; exact H
                                    clear H
                                    have H := H1
                                    clear H1
                                    as_aux_lemma =>
                                      have H' := Aside0.mk H
                                      clear H
                                      go_wp2
                                      go_meet
                                      case rel => exact ⟨_, (t190), (by first | rfl | (simp; done) | (simp [*]; done) | exact congrArg (Value.int .i64) (by unfold wrap64; omega)), (by first | exact H' | (subst_vars; exact H')), ⟨by have := HK1.out; have := HJ8.out; have := HJ12.out; have := HJ17.out; have := HJ30.out; have := HJ35.out; first | omega | exact Nat.le_refl _⟩, by repeat (first | exact Drawn0.refl _ | apply Drawn0.step)⟩
                                  · replace c46 := Bool.eq_false_iff.mpr c46
                                    subst c46
                                    have H1 : (scantlingref03_Utf8.j6 kj35 a0 x3_1 (wrap64 (bt a0 x3_1)) false t190 false) = some r := by rw [if_neg (show ¬ (false = true) by decide)] at H; exact H
                                    clear H
                                    have H := H1
                                    clear H1
                                    as_aux_lemma =>
                                      have H' := Aside0.mk H
                                      clear H
                                      go_wp2
                                      go_meet
                                      case rel => exact ⟨_, (false), (by first | rfl | (simp; done) | (simp [*]; done) | exact congrArg (Value.int .i64) (by unfold wrap64; omega)), (by first | exact H' | (subst_vars; exact H')), ⟨by have := HK1.out; have := HJ8.out; have := HJ12.out; have := HJ17.out; have := HJ30.out; have := HJ35.out; first | omega | exact Nat.le_refl _⟩, by repeat (first | exact Drawn0.refl _ | apply Drawn0.step)⟩
                                · replace c45 := Bool.eq_false_iff.mpr c45
                                  subst c45
                                  have H1 : (scantlingref03_Utf8.j6 kj35 a0 x3_1 (wrap64 (bt a0 x3_1)) t189 t190 false) = some r := by rw [if_neg (show ¬ (false = true) by decide)] at H; exact H
                                  clear H
                                  have H := H1
                                  clear H1
                                  as_aux_lemma =>
                                    have H' := Aside0.mk H
                                    clear H
                                    go_wp2
                                    go_meet
                                    case rel => exact ⟨_, (false), (by first | rfl | (simp; done) | (simp [*]; done) | exact congrArg (Value.int .i64) (by unfold wrap64; omega)), (by first | exact H' | (subst_vars; exact H')), ⟨by have := HK1.out; have := HJ8.out; have := HJ12.out; have := HJ17.out; have := HJ30.out; have := HJ35.out; first | omega | exact Nat.le_refl _⟩, by repeat (first | exact Drawn0.refl _ | apply Drawn0.step)⟩
                              · rw [if_neg c44] at H
                                have c44b0 : decide ((wrap64 (bt a0 x3_1)) ≤ 243) = false := decide_eq_false c44
                                clear c44
                                as_aux_lemma =>
                                  have H' := Aside0.mk H
                                  clear H
                                  go_wp2
                                  go_meet
                                  case rel => exact ⟨_, (false), (by first | rfl | (simp; done) | (simp [*]; done) | exact congrArg (Value.int .i64) (by unfold wrap64; omega)), (by first | exact H' | (subst_vars; exact H')), ⟨by have := HK1.out; have := HJ8.out; have := HJ12.out; have := HJ17.out; have := HJ30.out; have := HJ35.out; first | omega | exact Nat.le_refl _⟩, by repeat (first | exact Drawn0.refl _ | apply Drawn0.step)⟩
                            · rw [if_neg c43] at H
                              have c43b0 : decide (241 ≤ (wrap64 (bt a0 x3_1))) = false := decide_eq_false c43
                              clear c43
                              (first | rw [c43b0] | (simp only [i64_w, i32_w]; rw [c43b0]) | skip)
                              as_aux_lemma =>
                                have H' := Aside0.mk H
                                clear H
                                go_wp2
                                go_meet
                                case rel => exact ⟨_, (false), (by first | rfl | (simp; done) | (simp [*]; done) | exact congrArg (Value.int .i64) (by unfold wrap64; omega)), (by first | exact H' | (subst_vars; exact H')), ⟨by have := HK1.out; have := HJ8.out; have := HJ12.out; have := HJ17.out; have := HJ30.out; have := HJ35.out; first | omega | exact Nat.le_refl _⟩, by repeat (first | exact Drawn0.refl _ | apply Drawn0.step)⟩
                          case rest =>
                            clear HC42
                            try clear c2; try clear c2b0; try clear c3; try clear c3b0; try clear p4; try clear q4; try clear hx4; try clear c8; try clear c8b0; try clear c12; try clear c17; try clear c30; try clear c35; try clear c41; try clear p4; try clear q4
                            obtain ⟨kq, x113_41, rfl, HA, HJ41, ⟨mc41, rfl⟩⟩ := hcut
                            cases kq with
                            | zero => exact absurd HA.out (by simp [scantlingref03_Utf8.j6])
                            | succ kj41 =>
                              have H := HA.out
                              clear HA
                              simp only [scantlingref03_Utf8.j6] at H
                              by_cases c47 : x113_41 = true
                              case pos =>
                                subst c47
                                have H1 : (scantlingref03_Utf8.l0 kj41 a0 (wrap64 (x3_1 + 4))) = some r := by rw [if_pos rfl] at H; exact H
                                clear H
                                have H := H1
                                clear H1
                                as_aux_lemma =>
                                  have H' := Aside0.mk H
                                  clear H
                                  go_wp2
                                  go_roundg kj41
                                  case measure => have := HK1.out; have := HJ8.out; have := HJ12.out; have := HJ17.out; have := HJ30.out; have := HJ35.out; have := HJ41.out; omega
                                  case rel => exact ⟨(wrap64 (x3_1 + 4)), (by first | rfl | (simp; done) | (simp [*]; done) | exact congrArg (Value.int .i64) (by unfold wrap64; omega)), (by first | exact H' | (subst_vars; exact H')), ⟨by have := HK1.out; have := HJ8.out; have := HJ12.out; have := HJ17.out; have := HJ30.out; have := HJ35.out; have := HJ41.out; omega⟩, by repeat (first | exact Drawn0.refl _ | apply Drawn0.step)⟩
                              replace c47 := Bool.eq_false_iff.mpr c47
                              subst c47
                              have H1 : (if (wrap64 (bt a0 x3_1)) = 244 then ((scantlingref03_in.f a0 (wrap64 (x3_1 + 1)) 128 143).bind fun t194 => (if t194 = true then (if t189 = true then (if t190 = true then (scantlingref03_Utf8.l0 kj41 a0 (wrap64 (x3_1 + 4))) else (some false)) else (some false)) else (some false))) else (some false)) = some r := by rw [if_neg (show ¬ (false = true) by decide)] at H; exact H
                              clear H
                              have H := H1
                              clear H1
                              by_cases c48 : (wrap64 (bt a0 x3_1)) = 244
                              case neg =>
                                rw [if_neg c48] at H
                                have c48b0 : ((wrap64 (bt a0 x3_1)) == 244) = false := beq_eq_false_iff_ne.mpr c48
                                have c48b1 : ((wrap64 (bt a0 x3_1)) != 244) = true := bne_iff_ne.mpr c48
                                as_aux_lemma =>
                                  obtain rfl := Option.some.inj H
                                  go_wp2
                                  go_ret
                                  exact ⟨by first | rfl | (simp; done) | (simp [*]; done) | (simp [*, IntKind.wrap_i64, wrap64]; done), by repeat (first | exact Drawn0.refl _ | apply Drawn0.step)⟩
                              rw [if_pos c48] at H
                              have c48b0 : ((wrap64 (bt a0 x3_1)) == 244) = true := beq_iff_eq.mpr c48
                              have c48b1 : ((wrap64 (bt a0 x3_1)) != 244) = false := bne_eq_false_iff_eq.mpr c48
                              clear c48
                              replace H := Option.bind_eq_some_iff.mp H
                              obtain ⟨t194, A490, H⟩ := H
                              replace H : (if t194 = true then (if t189 = true then (if t190 = true then (scantlingref03_Utf8.l0 kj41 a0 (wrap64 (x3_1 + 4))) else (some false)) else (some false)) else (some false)) = some r := H
                              have A49 := Aside0.mk A490
                              clear A490
                              by_cases c50 : t194 = true
                              case neg =>
                                replace c50 := Bool.eq_false_iff.mpr c50
                                subst c50
                                have H1 : (some false) = some r := by rw [if_neg (show ¬ (false = true) by decide)] at H; exact H
                                clear H
                                have H := H1
                                clear H1
                                as_aux_lemma =>
                                  obtain rfl := Option.some.inj H
                                  go_wp2_with (first | (go_at_call 24; (with_reducible refine (scantlingref03_in.calls a0 (wrap64 (x3_1 + 1)) 128 143 false _ A49.out).mono ?_); rintro e w' ⟨rfl, ⟨nd, rfl⟩⟩))
                                  go_ret
                                  exact ⟨by first | rfl | (simp; done) | (simp [*]; done) | (simp [*, IntKind.wrap_i64, wrap64]; done), by repeat (first | exact Drawn0.refl _ | apply Drawn0.step)⟩
                              subst c50
                              have H1 : (if t189 = true then (if t190 = true then (scantlingref03_Utf8.l0 kj41 a0 (wrap64 (x3_1 + 4))) else (some false)) else (some false)) = some r := by rw [if_pos rfl] at H; exact H
                              clear H
                              have H := H1
                              clear H1
                              by_cases c51 : t189 = true
                              case neg =>
                                replace c51 := Bool.eq_false_iff.mpr c51
                                subst c51
                                have H1 : (some false) = some r := by rw [if_neg (show ¬ (false = true) by decide)] at H; exact H
                                clear H
                                have H := H1
                                clear H1
                                as_aux_lemma =>
                                  obtain rfl := Option.some.inj H
                                  go_wp2_with (first | (go_at_call 24; (with_reducible refine (scantlingref03_in.calls a0 (wrap64 (x3_1 + 1)) 128 143 true _ A49.out).mono ?_); rintro e w' ⟨rfl, ⟨nd, rfl⟩⟩))
                                  go_ret
                                  exact ⟨by first | rfl | (simp; done) | (simp [*]; done) | (simp [*, IntKind.wrap_i64, wrap64]; done), by repeat (first | exact Drawn0.refl _ | apply Drawn0.step)⟩
                              subst c51
                              have H1 : (if t190 = true then (scantlingref03_Utf8.l0 kj41 a0 (wrap64 (x3_1 + 4))) else (some false)) = some r := by rw [if_pos rfl] at H; exact H
                              clear H
                              have H := H1
                              clear H1
                              by_cases c52 : t190 = true
                              case neg =>
                                replace c52 := Bool.eq_false_iff.mpr c52
                                subst c52
                                have H1 : (some false) = some r := by rw [if_neg (show ¬ (false = true) by decide)] at H; exact H
                                clear H
                                have H := H1
                                clear H1
                                as_aux_lemma =>
                                  obtain rfl := Option.some.inj H
                                  go_wp2_with (first | (go_at_call 24; (with_reducible refine (scantlingref03_in.calls a0 (wrap64 (x3_1 + 1)) 128 143 true _ A49.out).mono ?_); rintro e w' ⟨rfl, ⟨nd, rfl⟩⟩))
                                  go_ret
                                  exact ⟨by first | rfl | (simp; done) | (simp [*]; done) | (simp [*, IntKind.wrap_i64, wrap64]; done), by repeat (first | exact Drawn0.refl _ | apply Drawn0.step)⟩
                              subst c52
                              have H1 : (scantlingref03_Utf8.l0 kj41 a0 (wrap64 (x3_1 + 4))) = some r := by rw [if_pos rfl] at H; exact H
                              clear H
                              have H := H1
                              clear H1
                              as_aux_lemma =>
                                have H' := Aside0.mk H
                                clear H
                                go_wp2_with (first | (go_at_call 24; (with_reducible refine (scantlingref03_in.calls a0 (wrap64 (x3_1 + 1)) 128 143 true _ A49.out).mono ?_); rintro e w' ⟨rfl, ⟨nd, rfl⟩⟩))
                                go_roundg kj41
                                case measure => have := HK1.out; have := HJ8.out; have := HJ12.out; have := HJ17.out; have := HJ30.out; have := HJ35.out; have := HJ41.out; omega
                                case rel => exact ⟨(wrap64 (x3_1 + 4)), (by first | rfl | (simp; done) | (simp [*]; done) | exact congrArg (Value.int .i64) (by unfold wrap64; omega)), (by first | exact H' | (subst_vars; exact H')), ⟨by have := HK1.out; have := HJ8.out; have := HJ12.out; have := HJ17.out; have := HJ30.out; have := HJ35.out; have := HJ41.out; omega⟩, by repeat (first | exact Drawn0.refl _ | apply Drawn0.step)⟩
end Go.Proofs.YtepnbnpgifpfbaaDoor.G
namespace Go.Proofs.YtepnbnpgifpfbaaDoor.G
open Go.RowKit Go.Proofs.YtepnbnpgifpfbaaDoorW.PrintWords Go.Proofs.YtepnbnpgifpfbaaDoorW.PrintLast Go.Proofs.YtepnbnpgifpfbaaDoorW.PrintMore
attribute [local go_sem] max2_int min2_int max_two min_two max_three min_three max_four min_four
set_option linter.unusedVariables false
set_option linter.unusedSimpArgs false
def scantlingref03_short.l0 : Nat → Int → ByteArray → List Int → Int → Option (Int)
  | 0, _, _, _, _ => none
  | k + 1, x0, x3, x4, x5 => if x5 < (x3.size : Int) then (if 0 ≤ x5 then (if (bt x3 x5) = x0 then (if x5 < (x4.length : Int) then (some (rd x4 x5)) else (none)) else (scantlingref03_short.l0 k x0 x3 x4 (wrap64 (x5 + 1)))) else (none)) else (some 0)
def scantlingref03_short.f (k : Nat) (a0 : Int) : Option (Int) := scantlingref03_short.l0 k a0 (⟨#[40, 41, 124, 42, 98, 119]⟩ : ByteArray) (([3, 4, 5, 6, 8, 9] : List Int)) 0
set_option maxHeartbeats 8000000 in
set_option maxRecDepth 100000 in
theorem scantlingref03_short.calls (k : Nat) (a0 : Int) (r : Int) (w : World) (h : scantlingref03_short.f k a0 = some r) :
    Calls Tryd.prog 32 #[.int .u8 a0] w fun e w' => e = .returned (.int .i64 r) ∧ Below w.heap.size w w' := by
  have HB := Aside0.mk (Below.refl w.heap.size w)
  have H : (scantlingref03_short.l0 k a0 (⟨#[40, 41, 124, 42, 98, 119]⟩ : ByteArray) (([3, 4, 5, 6, 8, 9] : List Int)) 0) = some r := h
  clear h
  obtain ⟨y204, hy204⟩ : ∃ y_ : List Int, y_ = (([3, 4, 5, 6, 8, 9] : List Int)) := ⟨_, rfl⟩
  replace H : (scantlingref03_short.l0 k a0 (⟨#[40, 41, 124, 42, 98, 119]⟩ : ByteArray) y204 0) = some r := by first | (rw [hy204]; with_reducible exact H) | (have H2_ := (Option.bind_some _ _).symm.trans H; rw [hy204]; with_reducible exact H2_) | (have H2_ := (Option.bind_some _ _).symm.trans H; with_reducible exact H2_) | with_reducible exact H | (rw [hy204]; exact H) | exact H
  have Ny204 := Aside0.mk hy204
  clear hy204
  have H' := Aside0.mk H
  clear H
  go_enter Tryd.func32, Tryd.ntmps32
  go_wp2_with (first | ((with_reducible refine gate_dst (N := 6) rfl ?_); refine Kd.R_lit (Kd.int .i64) _ 3 ?hg (N := 6) ?hd (xs := ([3, 4, 5, 6, 8, 9] : List Int)) (inner := [.int .i64 3, .int .i64 4, .int .i64 5, .int .i64 6, .int .i64 8, .int .i64 9]) (ok := fun _ => True) (okp := fun _ => True) ?hr ?hp (fun _ hk => hk) trivial (Below.refl _ _) (Nat.le_refl _) (by simp) ?_; (case hd => rfl); (case hg => rfl); (case hr => first | (go_simp; done) | (go_simp; rfl)); (case hp => exact (Reps.one (show Kd.M (Kd.int .i64) _ _ _ 3 [.int .i64 3] from rfl) (Reps.one (show Kd.M (Kd.int .i64) _ _ _ 4 [.int .i64 4] from rfl) (Reps.one (show Kd.M (Kd.int .i64) _ _ _ 5 [.int .i64 5] from rfl) (Reps.one (show Kd.M (Kd.int .i64) _ _ _ 6 [.int .i64 6] from rfl) (Reps.one (show Kd.M (Kd.int .i64) _ _ _ 8 [.int .i64 8] from rfl) (Reps.one (show Kd.M (Kd.int .i64) _ _ _ 9 [.int .i64 9] from rfl) (Reps.none _ _)))))))); intro v205 w2 ho3 hb hg_ hnew_; clear hg_ hnew_; (first | rw [← Ny204.out] at ho3 | (simp only [Int.reduceToNat] at ho3; rw [← Ny204.out] at ho3)); have n0_ := Aside0.mk (Kd.R_lower ho3 (below_size (belx HB))); have n1_ := Aside0.mk (below_step (belx HB) hb); clear HB; have HO206 := n0_; have HB := n1_; clear n0_ n1_; clear hb ho3))
  go_loopg [5] k (fun kq v5 w' => ∃ (x5_1 : Int), v5 = .int .i64 x5_1 ∧ Aside0 (scantlingref03_short.l0 kq a0 (⟨#[40, 41, 124, 42, 98, 119]⟩ : ByteArray) y204 x5_1 = some r) ∧ Aside0 (kq ≤ k) ∧ Aside0 (Kd.R (Kd.int .i64) 3 w' w.heap.size (fun _ => True) v205 y204) ∧ Aside0 (Below w.heap.size w w'))
  case atStart => exact ⟨(0), (by first | rfl | (simp; done) | (simp [*]; done) | exact congrArg (Value.int .i64) (by unfold wrap64; omega)), (by first | exact H' | (subst_vars; exact H')), ⟨Nat.le_refl _⟩, ⟨by (with_reducible repeat (first | apply Kd.R_alloc | apply Kd.R_drewN | apply Kd.R_drew)); exact HO206.out⟩, ⟨belx HB⟩⟩
  case round =>
    clear H'
    obtain ⟨x5_1, rfl, HA, HK1, HO_4, HB⟩ := hrel
    cases gk with
    | zero => exact absurd HA.out (by simp [scantlingref03_short.l0])
    | succ k1 =>
      have H := HA.out
      clear HA
      simp only [scantlingref03_short.l0] at H
      by_cases c4 : x5_1 < ((⟨#[40, 41, 124, 42, 98, 119]⟩ : ByteArray).size : Int)
      case neg =>
        rw [if_neg c4] at H
        have c4b0 : decide (x5_1 < ((⟨#[40, 41, 124, 42, 98, 119]⟩ : ByteArray).size : Int)) = false := decide_eq_false c4
        have c4z : (6 : Int) ≤ x5_1 := Int.not_lt.mp c4
        clear c4
        obtain rfl := Option.some.inj H
        go_wp2
        go_ret
        exact ⟨by first | rfl | (simp [errW_none, errW_some] <;> rfl) | (simp [*, errW_none, errW_some] <;> rfl), belx HB⟩
      rw [if_pos c4] at H
      have c4b0 : decide (x5_1 < ((⟨#[40, 41, 124, 42, 98, 119]⟩ : ByteArray).size : Int)) = true := decide_eq_true c4
      have c4z : x5_1 < (6 : Int) := c4
      clear c4
      by_cases c5 : 0 ≤ x5_1
      case neg => rw [if_neg c5] at H; exact absurd H (by simp)
      rw [if_pos c5] at H
      have c5b0 : decide (0 ≤ x5_1) = true := decide_eq_true c5
      clear c5
      by_cases c7 : (bt (⟨#[40, 41, 124, 42, 98, 119]⟩ : ByteArray) x5_1) = a0
      case neg =>
        rw [if_neg c7] at H
        have c7b0 : ((bt (⟨#[40, 41, 124, 42, 98, 119]⟩ : ByteArray) x5_1) == a0) = false := beq_eq_false_iff_ne.mpr c7
        have c7b1 : ((bt (⟨#[40, 41, 124, 42, 98, 119]⟩ : ByteArray) x5_1) != a0) = true := bne_iff_ne.mpr c7
        have H' := Aside0.mk H
        clear H
        have p6 : 0 ≤ (x5_1 : Int) := odt
        have q6 : x5_1 < (6 : Int) := odt
        have hx6 := bt_at (⟨#[40, 41, 124, 42, 98, 119]⟩ : ByteArray) x5_1
        replace p6 := eq_true p6
        replace q6 := eq_true q6
        go_wp2
        go_roundg k1
        case measure => have := HK1.out; omega
        case rel => exact ⟨(wrap64 (x5_1 + 1)), (by first | rfl | (simp; done) | (simp [*]; done) | exact congrArg (Value.int .i64) (by unfold wrap64; omega)), (by first | exact H' | (subst_vars; exact H')), ⟨by have := HK1.out; omega⟩, ⟨by (with_reducible repeat (first | apply Kd.R_alloc | apply Kd.R_drewN | apply Kd.R_drew)); exact HO_4.out⟩, ⟨belx HB⟩⟩
      rw [if_pos c7] at H
      have c7b0 : ((bt (⟨#[40, 41, 124, 42, 98, 119]⟩ : ByteArray) x5_1) == a0) = true := beq_iff_eq.mpr c7
      have c7b1 : ((bt (⟨#[40, 41, 124, 42, 98, 119]⟩ : ByteArray) x5_1) != a0) = false := bne_eq_false_iff_eq.mpr c7
      clear c7
      by_cases c8 : x5_1 < (y204.length : Int)
      case neg => rw [if_neg c8] at H; exact absurd H (by simp)
      rw [if_pos c8] at H
      have c8b0 : decide (x5_1 < (y204.length : Int)) = true := decide_eq_true c8
      clear c8
      obtain rfl := Option.some.inj H
      have p6 : 0 ≤ (x5_1 : Int) := odt
      have q6 : x5_1 < (6 : Int) := odt
      have hx6 := bt_at (⟨#[40, 41, 124, 42, 98, 119]⟩ : ByteArray) x5_1
      replace p6 := eq_true p6
      replace q6 := eq_true q6
      obtain ⟨Ao9, co9, eo9⟩ := Kd.R_slice HO_4.out
      subst eo9
      have p207 : 0 ≤ (x5_1 : Int) := odt
      have q207 : x5_1 < (y204.length : Int) := odt
      obtain ⟨ad207, e207, hx207_0⟩ := Kd.at_int (Kd.R_reads' HO_4.out).2.2 x5_1 p207 q207
      cases e207
      replace p207 := eq_true p207
      replace q207 := eq_true q207
      go_wp2
      go_ret
      exact ⟨by first | rfl | (simp [errW_none, errW_some] <;> rfl) | (simp [*, errW_none, errW_some] <;> rfl), belx HB⟩
end Go.Proofs.YtepnbnpgifpfbaaDoor.G
namespace Go.Proofs.YtepnbnpgifpfbaaDoor.G
open Go.RowKit Go.Proofs.YtepnbnpgifpfbaaDoorW.PrintWords Go.Proofs.YtepnbnpgifpfbaaDoorW.PrintLast Go.Proofs.YtepnbnpgifpfbaaDoorW.PrintMore
attribute [local go_sem] max2_int min2_int max_two min_two max_three min_three max_four min_four
set_option linter.unusedVariables false
set_option linter.unusedSimpArgs false
def scantlingref03_end.l0 : Nat → ByteArray → Int → Int → Option (Int)
  | 0, _, _, _ => none
  | k + 1, x0, x2, x7 => if x7 < (x0.size : Int) then (if 0 ≤ x7 then (if (bt x0 x7) = x2 then (some x7) else (scantlingref03_end.l0 k x0 x2 (wrap64 (x7 + 1)))) else (none)) else (some (-1))
def scantlingref03_end.f (k : Nat) (a0 : ByteArray) (a1 : Int) (a2 : Int) : Option (Int) := scantlingref03_end.l0 k a0 a2 (wrap64 (a1 + 1))
set_option maxHeartbeats 8000000 in
set_option maxRecDepth 100000 in
theorem scantlingref03_end.calls (k : Nat) (a0 : ByteArray) (a1 : Int) (a2 : Int) (r : Int) (w : World) (h : scantlingref03_end.f k a0 a1 a2 = some r) :
    Calls Tryd.prog 33 #[.string a0, .int .i64 a1, .int .u8 a2] w fun e w' => e = .returned (.int .i64 r) ∧ Drawn0 w w' := by
  have H : (scantlingref03_end.l0 k a0 a2 (wrap64 (a1 + 1))) = some r := h
  clear h
  have H' := Aside0.mk H
  clear H
  go_enter Tryd.func33, Tryd.ntmps33
  go_wp2
  go_loopg [7] k (fun kq v7 w' => ∃ (x7_1 : Int), v7 = .int .i64 x7_1 ∧ Aside0 (scantlingref03_end.l0 kq a0 a2 x7_1 = some r) ∧ Aside0 (kq ≤ k) ∧ Drawn0 w w')
  case atStart => exact ⟨(wrap64 (a1 + 1)), (by first | rfl | (simp; done) | (simp [*]; done) | exact congrArg (Value.int .i64) (by unfold wrap64; omega)), (by first | exact H' | (subst_vars; exact H')), ⟨Nat.le_refl _⟩, by repeat (first | exact Drawn0.refl _ | apply Drawn0.step)⟩
  case round =>
    clear H'
    obtain ⟨x7_1, rfl, HA, HK1, ⟨m1, rfl⟩⟩ := hrel
    cases gk with
    | zero => exact absurd HA.out (by simp [scantlingref03_end.l0])
    | succ k1 =>
      have H := HA.out
      clear HA
      simp only [scantlingref03_end.l0] at H
      by_cases c4 : x7_1 < (a0.size : Int)
      case neg =>
        rw [if_neg c4] at H
        have c4b0 : decide (x7_1 < (a0.size : Int)) = false := decide_eq_false c4
        clear c4
        obtain rfl := Option.some.inj H
        go_wp2
        go_ret
        exact ⟨by first | rfl | (simp; done) | (simp [*]; done) | (simp [*, IntKind.wrap_i64, wrap64]; done), by repeat (first | exact Drawn0.refl _ | apply Drawn0.step)⟩
      rw [if_pos c4] at H
      have c4b0 : decide (x7_1 < (a0.size : Int)) = true := decide_eq_true c4
      clear c4
      by_cases c5 : 0 ≤ x7_1
      case neg => rw [if_neg c5] at H; exact absurd H (by simp)
      rw [if_pos c5] at H
      have c5b0 : decide (0 ≤ x7_1) = true := decide_eq_true c5
      clear c5
      by_cases c7 : (bt a0 x7_1) = a2
      case pos =>
        rw [if_pos c7] at H
        have c7b0 : ((bt a0 x7_1) == a2) = true := beq_iff_eq.mpr c7
        have c7b1 : ((bt a0 x7_1) != a2) = false := bne_eq_false_iff_eq.mpr c7
        clear c7
        obtain rfl := Option.some.inj H
        have p6 : 0 ≤ (x7_1 : Int) := odt
        have q6 : x7_1 < (a0.size : Int) := odt
        have hx6 := bt_at a0 x7_1
        replace p6 := eq_true p6
        replace q6 := eq_true q6
        go_wp2
        go_ret
        exact ⟨by first | rfl | (simp; done) | (simp [*]; done) | (simp [*, IntKind.wrap_i64, wrap64]; done), by repeat (first | exact Drawn0.refl _ | apply Drawn0.step)⟩
      rw [if_neg c7] at H
      have c7b0 : ((bt a0 x7_1) == a2) = false := beq_eq_false_iff_ne.mpr c7
      have c7b1 : ((bt a0 x7_1) != a2) = true := bne_iff_ne.mpr c7
      have H' := Aside0.mk H
      clear H
      have p6 : 0 ≤ (x7_1 : Int) := odt
      have q6 : x7_1 < (a0.size : Int) := odt
      have hx6 := bt_at a0 x7_1
      replace p6 := eq_true p6
      replace q6 := eq_true q6
      go_wp2
      go_roundg k1
      case measure => have := HK1.out; omega
      case rel => exact ⟨(wrap64 (x7_1 + 1)), (by first | rfl | (simp; done) | (simp [*]; done) | exact congrArg (Value.int .i64) (by unfold wrap64; omega)), (by first | exact H' | (subst_vars; exact H')), ⟨by have := HK1.out; omega⟩, by repeat (first | exact Drawn0.refl _ | apply Drawn0.step)⟩
end Go.Proofs.YtepnbnpgifpfbaaDoor.G
namespace Go.Proofs.YtepnbnpgifpfbaaDoor.G
open Go.RowKit Go.Proofs.YtepnbnpgifpfbaaDoorW.PrintWords Go.Proofs.YtepnbnpgifpfbaaDoorW.PrintLast Go.Proofs.YtepnbnpgifpfbaaDoorW.PrintMore
attribute [local go_sem] max2_int min2_int max_two min_two max_three min_three max_four min_four
set_option linter.unusedVariables false
set_option linter.unusedSimpArgs false
def scantlingref03_digit.j0 : Nat → Int → Bool → Option (Int)
  | 0, _, _ => none
  | k + 1, x0, x8 => if x8 = true then (some (wrap64 ((wrap64 (x0)) - 48))) else (if x0 ≥ 97 then (if x0 ≤ 102 then (some (wrap64 ((wrap64 (x0)) - 87))) else (some (-1))) else (some (-1)))
def scantlingref03_digit.f (k : Nat) (a0 : Int) : Option (Int) := if a0 ≥ 48 then (scantlingref03_digit.j0 k a0 (decide (a0 ≤ 57))) else (scantlingref03_digit.j0 k a0 false)
set_option maxHeartbeats 8000000 in
set_option maxRecDepth 100000 in
theorem scantlingref03_digit.calls (k : Nat) (a0 : Int) (r : Int) (w : World) (h : scantlingref03_digit.f k a0 = some r) :
    Calls Tryd.prog 49 #[.int .u8 a0] w fun e w' => e = .returned (.int .i64 r) ∧ Drawn0 w w' := by
  have H : (if a0 ≥ 48 then (scantlingref03_digit.j0 k a0 (decide (a0 ≤ 57))) else (scantlingref03_digit.j0 k a0 false)) = some r := h
  clear h
  have HC2 := Aside0.mk H
  clear H
  go_enter Tryd.func49, Tryd.ntmps49
  go_upto_region 1 with (fail)
  go_cut [8] (fun v8 wc => ∃ (kq : Nat) (x8_1 : Bool), v8 = .bool x8_1 ∧ Aside0 (scantlingref03_digit.j0 kq a0 x8_1 = some r) ∧ Aside0 (kq ≤ k) ∧ Drawn0 w wc)
  case first =>
    have H := HC2.out
    clear HC2
    by_cases c3 : a0 ≥ 48
    · rw [if_pos c3] at H
      have c3b0 : decide (48 ≤ a0) = true := decide_eq_true c3
      clear c3
      (first | rw [c3b0] | (simp only [i64_w, i32_w]; rw [c3b0]) | skip)
      have H' := Aside0.mk H
      clear H
      go_wp2
      go_meet
      case rel => exact ⟨_, (decide (a0 ≤ 57)), (by first | rfl | (simp; done) | (simp [*]; done) | exact congrArg (Value.int .i64) (by unfold wrap64; omega)), (by first | exact H' | (subst_vars; exact H')), ⟨by first | omega | exact Nat.le_refl _⟩, by repeat (first | exact Drawn0.refl _ | apply Drawn0.step)⟩
    · rw [if_neg c3] at H
      have c3b0 : decide (48 ≤ a0) = false := decide_eq_false c3
      clear c3
      (first | rw [c3b0] | (simp only [i64_w, i32_w]; rw [c3b0]) | skip)
      have H' := Aside0.mk H
      clear H
      go_wp2
      go_meet
      case rel => exact ⟨_, (false), (by first | rfl | (simp; done) | (simp [*]; done) | exact congrArg (Value.int .i64) (by unfold wrap64; omega)), (by first | exact H' | (subst_vars; exact H')), ⟨by first | omega | exact Nat.le_refl _⟩, by repeat (first | exact Drawn0.refl _ | apply Drawn0.step)⟩
  case rest =>
    clear HC2
    obtain ⟨kq, x8_1, rfl, HA, HJ1, ⟨mc1, rfl⟩⟩ := hcut
    cases kq with
    | zero => exact absurd HA.out (by simp [scantlingref03_digit.j0])
    | succ kj1 =>
      have H := HA.out
      clear HA
      simp only [scantlingref03_digit.j0] at H
      by_cases c4 : x8_1 = true
      case pos =>
        subst c4
        have H1 : (some (wrap64 ((wrap64 (a0)) - 48))) = some r := by rw [if_pos rfl] at H; exact H
        clear H
        have H := H1
        clear H1
        obtain rfl := Option.some.inj H
        go_wp2
        go_ret
        exact ⟨by first | rfl | (simp; done) | (simp [*]; done) | (simp [*, IntKind.wrap_i64, wrap64]; done), by repeat (first | exact Drawn0.refl _ | apply Drawn0.step)⟩
      replace c4 := Bool.eq_false_iff.mpr c4
      subst c4
      have H1 : (if a0 ≥ 97 then (if a0 ≤ 102 then (some (wrap64 ((wrap64 (a0)) - 87))) else (some (-1))) else (some (-1))) = some r := by rw [if_neg (show ¬ (false = true) by decide)] at H; exact H
      clear H
      have H := H1
      clear H1
      by_cases c5 : a0 ≥ 97
      case neg =>
        rw [if_neg c5] at H
        have c5b0 : decide (97 ≤ a0) = false := decide_eq_false c5
        clear c5
        obtain rfl := Option.some.inj H
        go_wp2
        go_ret
        exact ⟨by first | rfl | (simp; done) | (simp [*]; done) | (simp [*, IntKind.wrap_i64, wrap64]; done), by repeat (first | exact Drawn0.refl _ | apply Drawn0.step)⟩
      rw [if_pos c5] at H
      have c5b0 : decide (97 ≤ a0) = true := decide_eq_true c5
      clear c5
      by_cases c6 : a0 ≤ 102
      case pos =>
        rw [if_pos c6] at H
        have c6b0 : decide (a0 ≤ 102) = true := decide_eq_true c6
        clear c6
        obtain rfl := Option.some.inj H
        go_wp2
        go_ret
        exact ⟨by first | rfl | (simp; done) | (simp [*]; done) | (simp [*, IntKind.wrap_i64, wrap64]; done), by repeat (first | exact Drawn0.refl _ | apply Drawn0.step)⟩
      rw [if_neg c6] at H
      have c6b0 : decide (a0 ≤ 102) = false := decide_eq_false c6
      clear c6
      obtain rfl := Option.some.inj H
      go_wp2
      go_ret
      exact ⟨by first | rfl | (simp; done) | (simp [*]; done) | (simp [*, IntKind.wrap_i64, wrap64]; done), by repeat (first | exact Drawn0.refl _ | apply Drawn0.step)⟩
end Go.Proofs.YtepnbnpgifpfbaaDoor.G
namespace Go.Proofs.YtepnbnpgifpfbaaDoor.G
open Go.RowKit Go.Proofs.YtepnbnpgifpfbaaDoorW.PrintWords Go.Proofs.YtepnbnpgifpfbaaDoorW.PrintLast Go.Proofs.YtepnbnpgifpfbaaDoorW.PrintMore
attribute [local go_sem] max2_int min2_int max_two min_two max_three min_three max_four min_four
set_option linter.unusedVariables false
set_option linter.unusedSimpArgs false
def scantlingref03_pair.j0 : Nat → ByteArray → Int → Bool → Option (Int)
  | 0, _, _, _ => none
  | k + 1, x0, x1, x24 => if x24 = true then (some (-1)) else (if 0 ≤ x1 then (if x1 < (x0.size : Int) then ((scantlingref03_digit.f k (bt x0 x1)).bind fun t243 => (if 0 ≤ (wrap64 (x1 + 1)) then (if (wrap64 (x1 + 1)) < (x0.size : Int) then ((scantlingref03_digit.f k (bt x0 (wrap64 (x1 + 1)))).bind fun t244 => (some (wrap64 ((wrap64 (16 * t243)) + t244)))) else (none)) else (none))) else (none)) else (none))
def scantlingref03_pair.f (k : Nat) (a0 : ByteArray) (a1 : Int) : Option (Int) := if (wrap64 (a1 + 1)) ≥ (a0.size : Int) then (scantlingref03_pair.j0 k a0 a1 true) else (if 0 ≤ a1 then (if a1 < (a0.size : Int) then ((scantlingref03_digit.f k (bt a0 a1)).bind fun t241 => (if t241 < 0 then (scantlingref03_pair.j0 k a0 a1 true) else (if 0 ≤ (wrap64 (a1 + 1)) then (if (wrap64 (a1 + 1)) < (a0.size : Int) then ((scantlingref03_digit.f k (bt a0 (wrap64 (a1 + 1)))).bind fun t242 => (scantlingref03_pair.j0 k a0 a1 (decide (t242 < 0)))) else (none)) else (none)))) else (none)) else (none))
set_option maxHeartbeats 8000000 in
set_option maxRecDepth 100000 in
theorem scantlingref03_pair.calls (k : Nat) (a0 : ByteArray) (a1 : Int) (r : Int) (w : World) (h : scantlingref03_pair.f k a0 a1 = some r) :
    Calls Tryd.prog 41 #[.string a0, .int .i64 a1] w fun e w' => e = .returned (.int .i64 r) ∧ Drawn0 w w' := by
  have H : (if (wrap64 (a1 + 1)) ≥ (a0.size : Int) then (scantlingref03_pair.j0 k a0 a1 true) else (if 0 ≤ a1 then (if a1 < (a0.size : Int) then ((scantlingref03_digit.f k (bt a0 a1)).bind fun t241 => (if t241 < 0 then (scantlingref03_pair.j0 k a0 a1 true) else (if 0 ≤ (wrap64 (a1 + 1)) then (if (wrap64 (a1 + 1)) < (a0.size : Int) then ((scantlingref03_digit.f k (bt a0 (wrap64 (a1 + 1)))).bind fun t242 => (scantlingref03_pair.j0 k a0 a1 (decide (t242 < 0)))) else (none)) else (none)))) else (none)) else (none))) = some r := h
  clear h
  have HC3 := Aside0.mk H
  clear H
  go_enter Tryd.func41, Tryd.ntmps41
  go_upto_region 1 with (fail)
  repeat (go_quiet (fail); go_upto_region 1 with (fail))
  go_cut [24] (fun v24 wc => ∃ (kq : Nat) (x24_2 : Bool), v24 = .bool x24_2 ∧ Aside0 (scantlingref03_pair.j0 kq a0 a1 x24_2 = some r) ∧ Aside0 (kq ≤ k) ∧ Drawn0 w wc)
  case first =>
    have H := HC3.out
    clear HC3
    by_cases c4 : (wrap64 (a1 + 1)) ≥ (a0.size : Int)
    · rw [if_pos c4] at H
      have c4b0 : decide ((a0.size : Int) ≤ (wrap64 (a1 + 1))) = true := decide_eq_true c4
      clear c4
      (first | rw [c4b0] | (simp only [i64_w, i32_w]; rw [c4b0]) | skip)
      have H' := Aside0.mk H
      clear H
      go_wp2
      repeat (go_quiet (fail); try go_wp2)
      go_meet
      case rel => exact ⟨_, (true), (by first | rfl | (simp; done) | (simp [*]; done) | exact congrArg (Value.int .i64) (by unfold wrap64; omega)), (by first | exact H' | (subst_vars; exact H')), ⟨by first | omega | exact Nat.le_refl _⟩, by repeat (first | exact Drawn0.refl _ | apply Drawn0.step)⟩
    · rw [if_neg c4] at H
      have c4b0 : decide ((a0.size : Int) ≤ (wrap64 (a1 + 1))) = false := decide_eq_false c4
      clear c4
      (first | rw [c4b0] | (simp only [i64_w, i32_w]; rw [c4b0]) | skip)
      by_cases c5 : 0 ≤ a1
      · rw [if_pos c5] at H
        have c5b0 : decide (0 ≤ a1) = true := decide_eq_true c5
        clear c5
        by_cases c6 : a1 < (a0.size : Int)
        · rw [if_pos c6] at H
          have c6b0 : decide (a1 < (a0.size : Int)) = true := decide_eq_true c6
          clear c6
          replace H := Option.bind_eq_some_iff.mp H
          obtain ⟨t241, A80, H⟩ := H
          replace H : (if t241 < 0 then (scantlingref03_pair.j0 k a0 a1 true) else (if 0 ≤ (wrap64 (a1 + 1)) then (if (wrap64 (a1 + 1)) < (a0.size : Int) then ((scantlingref03_digit.f k (bt a0 (wrap64 (a1 + 1)))).bind fun t242 => (scantlingref03_pair.j0 k a0 a1 (decide (t242 < 0)))) else (none)) else (none))) = some r := H
          have A8 := Aside0.mk A80
          clear A80
          by_cases c9 : t241 < 0
          · rw [if_pos c9] at H
            have c9b0 : decide (t241 < 0) = true := decide_eq_true c9
            clear c9
            have H' := Aside0.mk H
            clear H
            have p7 : 0 ≤ (a1 : Int) := odt
            have q7 : a1 < (a0.size : Int) := odt
            have hx7 := bt_at a0 a1
            replace p7 := eq_true p7
            replace q7 := eq_true q7
            go_wp2_with (first | (go_at_call 49; (with_reducible refine (scantlingref03_digit.calls k (bt a0 a1) t241 _ A8.out).mono ?_); rintro e w' ⟨rfl, ⟨nd, rfl⟩⟩; (try first | exact ⟨rfl, _, World.drewN_drewN _ _ _⟩ | exact ⟨rfl, _, Eq.trans (World.drewN_drewN _ _ _) (congrArg (World.drewN _) (Nat.add_assoc _ _ _))⟩)))
            repeat (go_quiet (first | (go_at_call 49; (with_reducible refine (scantlingref03_digit.calls k (bt a0 a1) t241 _ A8.out).mono ?_); rintro e w' ⟨rfl, ⟨nd, rfl⟩⟩; (try first | exact ⟨rfl, _, World.drewN_drewN _ _ _⟩ | exact ⟨rfl, _, Eq.trans (World.drewN_drewN _ _ _) (congrArg (World.drewN _) (Nat.add_assoc _ _ _))⟩))); try go_wp2_with (first | (go_at_call 49; (with_reducible refine (scantlingref03_digit.calls k (bt a0 a1) t241 _ A8.out).mono ?_); rintro e w' ⟨rfl, ⟨nd, rfl⟩⟩; (try first | exact ⟨rfl, _, World.drewN_drewN _ _ _⟩ | exact ⟨rfl, _, Eq.trans (World.drewN_drewN _ _ _) (congrArg (World.drewN _) (Nat.add_assoc _ _ _))⟩))))
            go_meet
            case rel => exact ⟨_, (true), (by first | rfl | (simp; done) | (simp [*]; done) | exact congrArg (Value.int .i64) (by unfold wrap64; omega)), (by first | exact H' | (subst_vars; exact H')), ⟨by first | omega | exact Nat.le_refl _⟩, by repeat (first | exact Drawn0.refl _ | apply Drawn0.step)⟩
          · rw [if_neg c9] at H
            have c9b0 : decide (t241 < 0) = false := decide_eq_false c9
            clear c9
            obtain ⟨ji10, hji10⟩ : ∃ j_ : Int, (wrap64 (a1 + 1)) = j_ := ⟨_, rfl⟩
            replace H : (if 0 ≤ (ji10) then (if (ji10) < (a0.size : Int) then ((scantlingref03_digit.f k (bt a0 (ji10))).bind fun t242 => (scantlingref03_pair.j0 k a0 a1 (decide (t242 < 0)))) else (none)) else (none)) = some r := by first | (rw [hji10] at H; exact H) | (simp only [hji10] at H ⊢; exact H)
            (try rw [hji10] at c4b0)
            (try rw [hji10] at A8)
            have hji10w : (IntKind.i64.wrap (a1 + 1)) = ji10 := (i64_w _).trans hji10
            by_cases c11 : 0 ≤ (ji10)
            · rw [if_pos c11] at H
              have c11b0 : decide (0 ≤ (ji10)) = true := decide_eq_true c11
              clear c11
              by_cases c12 : (ji10) < (a0.size : Int)
              · rw [if_pos c12] at H
                have c12b0 : decide ((ji10) < (a0.size : Int)) = true := decide_eq_true c12
                clear c12
                replace H := Option.bind_eq_some_iff.mp H
                obtain ⟨t242, A140, H⟩ := H
                replace H : (scantlingref03_pair.j0 k a0 a1 (decide (t242 < 0))) = some r := H
                have A14 := Aside0.mk A140
                clear A140
                have H' := Aside0.mk H
                clear H
                have p7 : 0 ≤ (a1 : Int) := odt
                have q7 : a1 < (a0.size : Int) := odt
                have hx7 := bt_at a0 a1
                replace p7 := eq_true p7
                replace q7 := eq_true q7
                go_wp2_with (first | (go_at_call 49; (with_reducible refine (scantlingref03_digit.calls k (bt a0 a1) t241 _ A8.out).mono ?_); rintro e w' ⟨rfl, ⟨nd, rfl⟩⟩; (try first | exact ⟨rfl, _, World.drewN_drewN _ _ _⟩ | exact ⟨rfl, _, Eq.trans (World.drewN_drewN _ _ _) (congrArg (World.drewN _) (Nat.add_assoc _ _ _))⟩); have p13 : 0 ≤ ((ji10) : Int) := odt; have q13 : (ji10) < (a0.size : Int) := odt; have hx13 := bt_at a0 (ji10); replace p13 := eq_true p13; replace q13 := eq_true q13) | (go_at_call 49; (with_reducible refine (scantlingref03_digit.calls k (bt a0 (ji10)) t242 _ A14.out).mono ?_); rintro e w' ⟨rfl, ⟨nd, rfl⟩⟩; (try first | exact ⟨rfl, _, World.drewN_drewN _ _ _⟩ | exact ⟨rfl, _, Eq.trans (World.drewN_drewN _ _ _) (congrArg (World.drewN _) (Nat.add_assoc _ _ _))⟩)))
                repeat (go_quiet (first | (go_at_call 49; (with_reducible refine (scantlingref03_digit.calls k (bt a0 a1) t241 _ A8.out).mono ?_); rintro e w' ⟨rfl, ⟨nd, rfl⟩⟩; (try first | exact ⟨rfl, _, World.drewN_drewN _ _ _⟩ | exact ⟨rfl, _, Eq.trans (World.drewN_drewN _ _ _) (congrArg (World.drewN _) (Nat.add_assoc _ _ _))⟩); have p13 : 0 ≤ ((ji10) : Int) := odt; have q13 : (ji10) < (a0.size : Int) := odt; have hx13 := bt_at a0 (ji10); replace p13 := eq_true p13; replace q13 := eq_true q13) | (go_at_call 49; (with_reducible refine (scantlingref03_digit.calls k (bt a0 (ji10)) t242 _ A14.out).mono ?_); rintro e w' ⟨rfl, ⟨nd, rfl⟩⟩; (try first | exact ⟨rfl, _, World.drewN_drewN _ _ _⟩ | exact ⟨rfl, _, Eq.trans (World.drewN_drewN _ _ _) (congrArg (World.drewN _) (Nat.add_assoc _ _ _))⟩))); try go_wp2_with (first | (go_at_call 49; (with_reducible refine (scantlingref03_digit.calls k (bt a0 a1) t241 _ A8.out).mono ?_); rintro e w' ⟨rfl, ⟨nd, rfl⟩⟩; (try first | exact ⟨rfl, _, World.drewN_drewN _ _ _⟩ | exact ⟨rfl, _, Eq.trans (World.drewN_drewN _ _ _) (congrArg (World.drewN _) (Nat.add_assoc _ _ _))⟩); have p13 : 0 ≤ ((ji10) : Int) := odt; have q13 : (ji10) < (a0.size : Int) := odt; have hx13 := bt_at a0 (ji10); replace p13 := eq_true p13; replace q13 := eq_true q13) | (go_at_call 49; (with_reducible refine (scantlingref03_digit.calls k (bt a0 (ji10)) t242 _ A14.out).mono ?_); rintro e w' ⟨rfl, ⟨nd, rfl⟩⟩; (try first | exact ⟨rfl, _, World.drewN_drewN _ _ _⟩ | exact ⟨rfl, _, Eq.trans (World.drewN_drewN _ _ _) (congrArg (World.drewN _) (Nat.add_assoc _ _ _))⟩))))
                go_meet
                case rel => exact ⟨_, (decide (t242 < 0)), (by first | rfl | (simp; done) | (simp [*]; done) | exact congrArg (Value.int .i64) (by unfold wrap64; omega)), (by first | exact H' | (subst_vars; exact H')), ⟨by first | omega | exact Nat.le_refl _⟩, by repeat (first | exact Drawn0.refl _ | apply Drawn0.step)⟩
              · rw [if_neg c12] at H
                exact absurd H (by simp)
            · rw [if_neg c11] at H
              exact absurd H (by simp)
        · rw [if_neg c6] at H
          exact absurd H (by simp)
      · rw [if_neg c5] at H
        exact absurd H (by simp)
  case rest =>
    clear HC3
    obtain ⟨kq, x24_2, rfl, HA, HJ2, ⟨mc2, rfl⟩⟩ := hcut
    cases kq with
    | zero => exact absurd HA.out (by simp [scantlingref03_pair.j0])
    | succ kj2 =>
      have H := HA.out
      clear HA
      simp only [scantlingref03_pair.j0] at H
      by_cases c15 : x24_2 = true
      case pos =>
        subst c15
        have H1 : (some (-1)) = some r := by rw [if_pos rfl] at H; exact H
        clear H
        have H := H1
        clear H1
        obtain rfl := Option.some.inj H
        go_wp2
        repeat (go_quiet (fail); try go_wp2)
        go_ret
        exact ⟨by first | rfl | (simp; done) | (simp [*]; done) | (simp [*, IntKind.wrap_i64, wrap64]; done), by repeat (first | exact Drawn0.refl _ | apply Drawn0.step)⟩
      replace c15 := Bool.eq_false_iff.mpr c15
      subst c15
      have H1 : (if 0 ≤ a1 then (if a1 < (a0.size : Int) then ((scantlingref03_digit.f kj2 (bt a0 a1)).bind fun t243 => (if 0 ≤ (wrap64 (a1 + 1)) then (if (wrap64 (a1 + 1)) < (a0.size : Int) then ((scantlingref03_digit.f kj2 (bt a0 (wrap64 (a1 + 1)))).bind fun t244 => (some (wrap64 ((wrap64 (16 * t243)) + t244)))) else (none)) else (none))) else (none)) else (none)) = some r := by rw [if_neg (show ¬ (false = true) by decide)] at H; exact H
      clear H
      have H := H1
      clear H1
      by_cases c16 : 0 ≤ a1
      case neg => rw [if_neg c16] at H; exact absurd H (by simp);
      rw [if_pos c16] at H
      have c16b0 : decide (0 ≤ a1) = true := decide_eq_true c16
      clear c16
      by_cases c17 : a1 < (a0.size : Int)
      case neg => rw [if_neg c17] at H; exact absurd H (by simp)
      rw [if_pos c17] at H
      have c17b0 : decide (a1 < (a0.size : Int)) = true := decide_eq_true c17
      clear c17
      replace H := Option.bind_eq_some_iff.mp H
      obtain ⟨t243, A190, H⟩ := H
      replace H : (if 0 ≤ (wrap64 (a1 + 1)) then (if (wrap64 (a1 + 1)) < (a0.size : Int) then ((scantlingref03_digit.f kj2 (bt a0 (wrap64 (a1 + 1)))).bind fun t244 => (some (wrap64 ((wrap64 (16 * t243)) + t244)))) else (none)) else (none)) = some r := H
      have A19 := Aside0.mk A190
      clear A190
      obtain ⟨ji20, hji20⟩ : ∃ j_ : Int, (wrap64 (a1 + 1)) = j_ := ⟨_, rfl⟩
      replace H : (if 0 ≤ (ji20) then (if (ji20) < (a0.size : Int) then ((scantlingref03_digit.f kj2 (bt a0 (ji20))).bind fun t244 => (some (wrap64 ((wrap64 (16 * t243)) + t244)))) else (none)) else (none)) = some r := by first | (rw [hji20] at H; exact H) | (simp only [hji20] at H ⊢; exact H)
      (try rw [hji20] at A19)
      have hji20w : (IntKind.i64.wrap (a1 + 1)) = ji20 := (i64_w _).trans hji20
      by_cases c21 : 0 ≤ (ji20)
      case neg => rw [if_neg c21] at H; exact absurd H (by simp)
      rw [if_pos c21] at H
      have c21b0 : decide (0 ≤ (ji20)) = true := decide_eq_true c21
      clear c21
      by_cases c22 : (ji20) < (a0.size : Int)
      case neg => rw [if_neg c22] at H; exact absurd H (by simp)
      rw [if_pos c22] at H
      have c22b0 : decide ((ji20) < (a0.size : Int)) = true := decide_eq_true c22
      clear c22
      replace H := Option.bind_eq_some_iff.mp H
      obtain ⟨t244, A240, H⟩ := H
      replace H : (some (wrap64 ((wrap64 (16 * t243)) + t244))) = some r := H
      have A24 := Aside0.mk A240
      clear A240
      obtain rfl := Option.some.inj H
      have p18 : 0 ≤ (a1 : Int) := odt
      have q18 : a1 < (a0.size : Int) := odt
      have hx18 := bt_at a0 a1
      replace p18 := eq_true p18
      replace q18 := eq_true q18
      go_wp2_with (first | (go_at_call 49; (with_reducible refine (scantlingref03_digit.calls kj2 (bt a0 a1) t243 _ A19.out).mono ?_); rintro e w' ⟨rfl, ⟨nd, rfl⟩⟩; (try first | exact ⟨rfl, _, World.drewN_drewN _ _ _⟩ | exact ⟨rfl, _, Eq.trans (World.drewN_drewN _ _ _) (congrArg (World.drewN _) (Nat.add_assoc _ _ _))⟩); have p23 : 0 ≤ ((ji20) : Int) := odt; have q23 : (ji20) < (a0.size : Int) := odt; have hx23 := bt_at a0 (ji20); replace p23 := eq_true p23; replace q23 := eq_true q23) | (go_at_call 49; (with_reducible refine (scantlingref03_digit.calls kj2 (bt a0 (ji20)) t244 _ A24.out).mono ?_); rintro e w' ⟨rfl, ⟨nd, rfl⟩⟩; (try first | exact ⟨rfl, _, World.drewN_drewN _ _ _⟩ | exact ⟨rfl, _, Eq.trans (World.drewN_drewN _ _ _) (congrArg (World.drewN _) (Nat.add_assoc _ _ _))⟩)))
      repeat (go_quiet (first | (go_at_call 49; (with_reducible refine (scantlingref03_digit.calls kj2 (bt a0 a1) t243 _ A19.out).mono ?_); rintro e w' ⟨rfl, ⟨nd, rfl⟩⟩; (try first | exact ⟨rfl, _, World.drewN_drewN _ _ _⟩ | exact ⟨rfl, _, Eq.trans (World.drewN_drewN _ _ _) (congrArg (World.drewN _) (Nat.add_assoc _ _ _))⟩); have p23 : 0 ≤ ((ji20) : Int) := odt; have q23 : (ji20) < (a0.size : Int) := odt; have hx23 := bt_at a0 (ji20); replace p23 := eq_true p23; replace q23 := eq_true q23) | (go_at_call 49; (with_reducible refine (scantlingref03_digit.calls kj2 (bt a0 (ji20)) t244 _ A24.out).mono ?_); rintro e w' ⟨rfl, ⟨nd, rfl⟩⟩; (try first | exact ⟨rfl, _, World.drewN_drewN _ _ _⟩ | exact ⟨rfl, _, Eq.trans (World.drewN_drewN _ _ _) (congrArg (World.drewN _) (Nat.add_assoc _ _ _))⟩))); try go_wp2_with (first | (go_at_call 49; (with_reducible refine (scantlingref03_digit.calls kj2 (bt a0 a1) t243 _ A19.out).mono ?_); rintro e w' ⟨rfl, ⟨nd, rfl⟩⟩; (try first | exact ⟨rfl, _, World.drewN_drewN _ _ _⟩ | exact ⟨rfl, _, Eq.trans (World.drewN_drewN _ _ _) (congrArg (World.drewN _) (Nat.add_assoc _ _ _))⟩); have p23 : 0 ≤ ((ji20) : Int) := odt; have q23 : (ji20) < (a0.size : Int) := odt; have hx23 := bt_at a0 (ji20); replace p23 := eq_true p23; replace q23 := eq_true q23) | (go_at_call 49; (with_reducible refine (scantlingref03_digit.calls kj2 (bt a0 (ji20)) t244 _ A24.out).mono ?_); rintro e w' ⟨rfl, ⟨nd, rfl⟩⟩; (try first | exact ⟨rfl, _, World.drewN_drewN _ _ _⟩ | exact ⟨rfl, _, Eq.trans (World.drewN_drewN _ _ _) (congrArg (World.drewN _) (Nat.add_assoc _ _ _))⟩))))
      go_ret
      exact ⟨by first | rfl | (simp; done) | (simp only [← hji20] <;> (first | rfl | (simp; done))) | (simp [*]; done) | (simp [*, IntKind.wrap_i64, wrap64]; done), by repeat (first | exact Drawn0.refl _ | apply Drawn0.step)⟩
end Go.Proofs.YtepnbnpgifpfbaaDoor.G
namespace Go.Proofs.YtepnbnpgifpfbaaDoor.G
open Go.RowKit Go.Proofs.YtepnbnpgifpfbaaDoorW.PrintWords Go.Proofs.YtepnbnpgifpfbaaDoorW.PrintLast Go.Proofs.YtepnbnpgifpfbaaDoorW.PrintMore
attribute [local go_sem] max2_int min2_int max_two min_two max_three min_three max_four min_four
set_option linter.unusedVariables false
set_option linter.unusedSimpArgs false
def scantlingref03_number.l0 : Nat → ByteArray → Int → Int → Int → Option (Int × Int)
  | 0, _, _, _, _ => none
  | k + 1, x0, x1, x6, x7 => if x7 < (x0.size : Int) then (if 0 ≤ x7 then (if (bt x0 x7) ≥ 48 then (if (bt x0 x7) ≤ 57 then (scantlingref03_number.l0 k x0 x1 (mn 256 (wrap64 ((wrap64 ((wrap64 (10 * x6)) + (wrap64 (bt x0 x7)))) - 48))) (wrap64 (x7 + 1))) else (if x7 = x1 then (some ((-1), x7)) else (if x7 > (wrap64 (x1 + 1)) then (if 0 ≤ x1 then (if x1 < (x0.size : Int) then (if (bt x0 x1) = 48 then (some ((-1), x7)) else (some (x6, x7))) else (none)) else (none)) else (some (x6, x7))))) else (if x7 = x1 then (some ((-1), x7)) else (if x7 > (wrap64 (x1 + 1)) then (if 0 ≤ x1 then (if x1 < (x0.size : Int) then (if (bt x0 x1) = 48 then (some ((-1), x7)) else (some (x6, x7))) else (none)) else (none)) else (some (x6, x7))))) else (none)) else (if x7 = x1 then (some ((-1), x7)) else (if x7 > (wrap64 (x1 + 1)) then (if 0 ≤ x1 then (if x1 < (x0.size : Int) then (if (bt x0 x1) = 48 then (some ((-1), x7)) else (some (x6, x7))) else (none)) else (none)) else (some (x6, x7))))
def scantlingref03_number.f (k : Nat) (a0 : ByteArray) (a1 : Int) : Option (Int × Int) := scantlingref03_number.l0 k a0 a1 0 a1
set_option maxHeartbeats 8000000 in
set_option maxRecDepth 100000 in
theorem scantlingref03_number.calls (k : Nat) (a0 : ByteArray) (a1 : Int) (r1 : Int) (r2 : Int) (w : World) (h : scantlingref03_number.f k a0 a1 = some (r1, r2)) :
    Calls Tryd.prog 35 #[.string a0, .int .i64 a1] w fun e w' => e = .returned (.tuple #[.int .i64 r1, .int .i64 r2]) ∧ Below w.heap.size w w' := by
  have HB := Aside0.mk (Below.refl w.heap.size w)
  have H : (scantlingref03_number.l0 k a0 a1 0 a1) = some (r1, r2) := h
  clear h
  have H' := Aside0.mk H
  clear H
  go_enter Tryd.func35, Tryd.ntmps35
  go_wp2
  go_loopg [6, 7] k (fun kq v6 v7 w' => ∃ (x6_1 : Int) (x7_1 : Int), v6 = .int .i64 x6_1 ∧ v7 = .int .i64 x7_1 ∧ Aside0 (scantlingref03_number.l0 kq a0 a1 x6_1 x7_1 = some (r1, r2)) ∧ Aside0 (kq ≤ k) ∧ Aside0 (Below w.heap.size w w'))
  case atStart => exact ⟨(0), (a1), (by first | rfl | (simp; done) | (simp [*]; done) | exact congrArg (Value.int .i64) (by unfold wrap64; omega)), (by first | rfl | (simp; done) | (simp [*]; done) | exact congrArg (Value.int .i64) (by unfold wrap64; omega)), (by first | exact H' | (subst_vars; exact H')), ⟨Nat.le_refl _⟩, ⟨belx HB⟩⟩
  case round =>
    clear H'
    obtain ⟨x6_1, x7_1, rfl, rfl, HA, HK1, HB⟩ := hrel
    cases gk with
    | zero => exact absurd HA.out (by simp [scantlingref03_number.l0])
    | succ k1 =>
      have H := HA.out
      clear HA
      simp only [scantlingref03_number.l0] at H
      by_cases c3 : x7_1 < (a0.size : Int)
      case neg =>
        rw [if_neg c3] at H
        have c3b0 : decide (x7_1 < (a0.size : Int)) = false := decide_eq_false c3
        clear c3
        by_cases c23 : x7_1 = a1
        case pos =>
          rw [if_pos c23] at H
          have c23b0 : (x7_1 == a1) = true := beq_iff_eq.mpr c23
          have c23b1 : (x7_1 != a1) = false := bne_eq_false_iff_eq.mpr c23
          clear c23
          simp only [Option.some.injEq, Prod.mk.injEq] at H
          obtain ⟨rfl, rfl⟩ := H
          go_wp2
          go_ret2
          exact ⟨by first | rfl | (simp [errW_none, errW_some] <;> rfl) | (simp [*, errW_none, errW_some] <;> rfl), belx HB⟩
        rw [if_neg c23] at H
        have c23b0 : (x7_1 == a1) = false := beq_eq_false_iff_ne.mpr c23
        have c23b1 : (x7_1 != a1) = true := bne_iff_ne.mpr c23
        by_cases c24 : x7_1 > (wrap64 (a1 + 1))
        case neg =>
          rw [if_neg c24] at H
          have c24b0 : decide ((wrap64 (a1 + 1)) < x7_1) = false := decide_eq_false c24
          clear c24
          simp only [Option.some.injEq, Prod.mk.injEq] at H
          obtain ⟨rfl, rfl⟩ := H
          go_wp2
          go_ret2
          exact ⟨by first | rfl | (simp [errW_none, errW_some] <;> rfl) | (simp [*, errW_none, errW_some] <;> rfl), belx HB⟩
        rw [if_pos c24] at H
        have c24b0 : decide ((wrap64 (a1 + 1)) < x7_1) = true := decide_eq_true c24
        clear c24
        by_cases c25 : 0 ≤ a1
        case neg => rw [if_neg c25] at H; exact absurd H (by simp)
        rw [if_pos c25] at H
        have c25b0 : decide (0 ≤ a1) = true := decide_eq_true c25
        clear c25
        by_cases c26 : a1 < (a0.size : Int)
        case neg => rw [if_neg c26] at H; exact absurd H (by simp)
        rw [if_pos c26] at H
        have c26b0 : decide (a1 < (a0.size : Int)) = true := decide_eq_true c26
        clear c26
        by_cases c28 : (bt a0 a1) = 48
        case neg =>
          rw [if_neg c28] at H
          have c28b0 : ((bt a0 a1) == 48) = false := beq_eq_false_iff_ne.mpr c28
          have c28b1 : ((bt a0 a1) != 48) = true := bne_iff_ne.mpr c28
          simp only [Option.some.injEq, Prod.mk.injEq] at H
          obtain ⟨rfl, rfl⟩ := H
          have p27 : 0 ≤ (a1 : Int) := odt
          have q27 : a1 < (a0.size : Int) := odt
          have hx27 := bt_at a0 a1
          replace p27 := eq_true p27
          replace q27 := eq_true q27
          go_wp2
          go_ret2
          exact ⟨by first | rfl | (simp [errW_none, errW_some] <;> rfl) | (simp [*, errW_none, errW_some] <;> rfl), belx HB⟩
        rw [if_pos c28] at H
        have c28b0 : ((bt a0 a1) == 48) = true := beq_iff_eq.mpr c28
        have c28b1 : ((bt a0 a1) != 48) = false := bne_eq_false_iff_eq.mpr c28
        clear c28
        simp only [Option.some.injEq, Prod.mk.injEq] at H
        obtain ⟨rfl, rfl⟩ := H
        have p27 : 0 ≤ (a1 : Int) := odt
        have q27 : a1 < (a0.size : Int) := odt
        have hx27 := bt_at a0 a1
        replace p27 := eq_true p27
        replace q27 := eq_true q27
        go_wp2
        go_ret2
        exact ⟨by first | rfl | (simp [errW_none, errW_some] <;> rfl) | (simp [*, errW_none, errW_some] <;> rfl), belx HB⟩
      rw [if_pos c3] at H
      have c3b0 : decide (x7_1 < (a0.size : Int)) = true := decide_eq_true c3
      clear c3
      by_cases c4 : 0 ≤ x7_1
      case neg => rw [if_neg c4] at H; exact absurd H (by simp)
      rw [if_pos c4] at H
      have c4b0 : decide (0 ≤ x7_1) = true := decide_eq_true c4
      clear c4
      by_cases c6 : (bt a0 x7_1) ≥ 48
      case neg =>
        rw [if_neg c6] at H
        have c6b0 : decide (48 ≤ (bt a0 x7_1)) = false := decide_eq_false c6
        clear c6
        by_cases c17 : x7_1 = a1
        case pos =>
          rw [if_pos c17] at H
          have c17b0 : (x7_1 == a1) = true := beq_iff_eq.mpr c17
          have c17b1 : (x7_1 != a1) = false := bne_eq_false_iff_eq.mpr c17
          clear c17
          simp only [Option.some.injEq, Prod.mk.injEq] at H
          obtain ⟨rfl, rfl⟩ := H
          have p5 : 0 ≤ (x7_1 : Int) := odt
          have q5 : x7_1 < (a0.size : Int) := odt
          have hx5 := bt_at a0 x7_1
          replace p5 := eq_true p5
          replace q5 := eq_true q5
          go_wp2
          go_ret2
          exact ⟨by first | rfl | (simp [errW_none, errW_some] <;> rfl) | (simp [*, errW_none, errW_some] <;> rfl), belx HB⟩
        rw [if_neg c17] at H
        have c17b0 : (x7_1 == a1) = false := beq_eq_false_iff_ne.mpr c17
        have c17b1 : (x7_1 != a1) = true := bne_iff_ne.mpr c17
        by_cases c18 : x7_1 > (wrap64 (a1 + 1))
        case neg =>
          rw [if_neg c18] at H
          have c18b0 : decide ((wrap64 (a1 + 1)) < x7_1) = false := decide_eq_false c18
          clear c18
          simp only [Option.some.injEq, Prod.mk.injEq] at H
          obtain ⟨rfl, rfl⟩ := H
          have p5 : 0 ≤ (x7_1 : Int) := odt
          have q5 : x7_1 < (a0.size : Int) := odt
          have hx5 := bt_at a0 x7_1
          replace p5 := eq_true p5
          replace q5 := eq_true q5
          go_wp2
          go_ret2
          exact ⟨by first | rfl | (simp [errW_none, errW_some] <;> rfl) | (simp [*, errW_none, errW_some] <;> rfl), belx HB⟩
        rw [if_pos c18] at H
        have c18b0 : decide ((wrap64 (a1 + 1)) < x7_1) = true := decide_eq_true c18
        clear c18
        by_cases c19 : 0 ≤ a1
        case neg => rw [if_neg c19] at H; exact absurd H (by simp)
        rw [if_pos c19] at H
        have c19b0 : decide (0 ≤ a1) = true := decide_eq_true c19
        clear c19
        by_cases c20 : a1 < (a0.size : Int)
        case neg => rw [if_neg c20] at H; exact absurd H (by simp)
        rw [if_pos c20] at H
        have c20b0 : decide (a1 < (a0.size : Int)) = true := decide_eq_true c20
        clear c20
        by_cases c22 : (bt a0 a1) = 48
        case neg =>
          rw [if_neg c22] at H
          have c22b0 : ((bt a0 a1) == 48) = false := beq_eq_false_iff_ne.mpr c22
          have c22b1 : ((bt a0 a1) != 48) = true := bne_iff_ne.mpr c22
          simp only [Option.some.injEq, Prod.mk.injEq] at H
          obtain ⟨rfl, rfl⟩ := H
          have p5 : 0 ≤ (x7_1 : Int) := odt
          have q5 : x7_1 < (a0.size : Int) := odt
          have hx5 := bt_at a0 x7_1
          replace p5 := eq_true p5
          replace q5 := eq_true q5
          have p21 : 0 ≤ (a1 : Int) := odt
          have q21 : a1 < (a0.size : Int) := odt
          have hx21 := bt_at a0 a1
          replace p21 := eq_true p21
          replace q21 := eq_true q21
          go_wp2
          go_ret2
          exact ⟨by first | rfl | (simp [errW_none, errW_some] <;> rfl) | (simp [*, errW_none, errW_some] <;> rfl), belx HB⟩
        rw [if_pos c22] at H
        have c22b0 : ((bt a0 a1) == 48) = true := beq_iff_eq.mpr c22
        have c22b1 : ((bt a0 a1) != 48) = false := bne_eq_false_iff_eq.mpr c22
        clear c22
        simp only [Option.some.injEq, Prod.mk.injEq] at H
        obtain ⟨rfl, rfl⟩ := H
        have p5 : 0 ≤ (x7_1 : Int) := odt
        have q5 : x7_1 < (a0.size : Int) := odt
        have hx5 := bt_at a0 x7_1
        replace p5 := eq_true p5
        replace q5 := eq_true q5
        have p21 : 0 ≤ (a1 : Int) := odt
        have q21 : a1 < (a0.size : Int) := odt
        have hx21 := bt_at a0 a1
        replace p21 := eq_true p21
        replace q21 := eq_true q21
        go_wp2
        go_ret2
        exact ⟨by first | rfl | (simp [errW_none, errW_some] <;> rfl) | (simp [*, errW_none, errW_some] <;> rfl), belx HB⟩
      rw [if_pos c6] at H
      have c6b0 : decide (48 ≤ (bt a0 x7_1)) = true := decide_eq_true c6
      clear c6
      by_cases c8 : (bt a0 x7_1) ≤ 57
      case pos =>
        rw [if_pos c8] at H
        have c8b0 : decide ((bt a0 x7_1) ≤ 57) = true := decide_eq_true c8
        clear c8
        obtain ⟨ji10, hji10⟩ : ∃ j_ : Int, (mn 256 (wrap64 ((wrap64 ((wrap64 (10 * x6_1)) + (wrap64 (bt a0 x7_1)))) - 48))) = j_ := ⟨_, rfl⟩
        replace H : (scantlingref03_number.l0 k1 a0 a1 ji10 (wrap64 (x7_1 + 1))) = some (r1, r2) := by first | (rw [hji10] at H; exact H) | (simp only [hji10] at H ⊢; exact H)
        have hji10_ : (if (wrap64 ((wrap64 ((wrap64 (10 * x6_1)) + (wrap64 (bt a0 x7_1)))) - 48)) < 256 then (wrap64 ((wrap64 ((wrap64 (10 * x6_1)) + (wrap64 (bt a0 x7_1)))) - 48)) else 256) = ji10 := hji10
        have H' := Aside0.mk H
        clear H
        have p5 : 0 ≤ (x7_1 : Int) := odt
        have q5 : x7_1 < (a0.size : Int) := odt
        have hx5 := bt_at a0 x7_1
        replace p5 := eq_true p5
        replace q5 := eq_true q5
        have p7 : 0 ≤ (x7_1 : Int) := odt
        have q7 : x7_1 < (a0.size : Int) := odt
        have hx7 := bt_at a0 x7_1
        replace p7 := eq_true p7
        replace q7 := eq_true q7
        have p9 : 0 ≤ (x7_1 : Int) := odt
        have q9 : x7_1 < (a0.size : Int) := odt
        have hx9 := bt_at a0 x7_1
        replace p9 := eq_true p9
        replace q9 := eq_true q9
        go_wp2
        go_roundg k1
        case measure => have := HK1.out; omega
        case rel => exact ⟨(ji10), (wrap64 (x7_1 + 1)), (by first | rfl | (simp; done) | (simp only [← hji10] <;> (first | rfl | (simp; done))) | (simp [*]; done)), (by first | rfl | (simp; done) | (simp [*]; done) | exact congrArg (Value.int .i64) (by unfold wrap64; omega)), (by first | exact H' | (subst_vars; exact H')), ⟨by have := HK1.out; omega⟩, ⟨belx HB⟩⟩
      rw [if_neg c8] at H
      have c8b0 : decide ((bt a0 x7_1) ≤ 57) = false := decide_eq_false c8
      clear c8
      by_cases c11 : x7_1 = a1
      case pos =>
        rw [if_pos c11] at H
        have c11b0 : (x7_1 == a1) = true := beq_iff_eq.mpr c11
        have c11b1 : (x7_1 != a1) = false := bne_eq_false_iff_eq.mpr c11
        clear c11
        simp only [Option.some.injEq, Prod.mk.injEq] at H
        obtain ⟨rfl, rfl⟩ := H
        have p5 : 0 ≤ (x7_1 : Int) := odt
        have q5 : x7_1 < (a0.size : Int) := odt
        have hx5 := bt_at a0 x7_1
        replace p5 := eq_true p5
        replace q5 := eq_true q5
        have p7 : 0 ≤ (x7_1 : Int) := odt
        have q7 : x7_1 < (a0.size : Int) := odt
        have hx7 := bt_at a0 x7_1
        replace p7 := eq_true p7
        replace q7 := eq_true q7
        go_wp2
        go_ret2
        exact ⟨by first | rfl | (simp [errW_none, errW_some] <;> rfl) | (simp [*, errW_none, errW_some] <;> rfl), belx HB⟩
      rw [if_neg c11] at H
      have c11b0 : (x7_1 == a1) = false := beq_eq_false_iff_ne.mpr c11
      have c11b1 : (x7_1 != a1) = true := bne_iff_ne.mpr c11
      by_cases c12 : x7_1 > (wrap64 (a1 + 1))
      case neg =>
        rw [if_neg c12] at H
        have c12b0 : decide ((wrap64 (a1 + 1)) < x7_1) = false := decide_eq_false c12
        clear c12
        simp only [Option.some.injEq, Prod.mk.injEq] at H
        obtain ⟨rfl, rfl⟩ := H
        have p5 : 0 ≤ (x7_1 : Int) := odt
        have q5 : x7_1 < (a0.size : Int) := odt
        have hx5 := bt_at a0 x7_1
        replace p5 := eq_true p5
        replace q5 := eq_true q5
        have p7 : 0 ≤ (x7_1 : Int) := odt
        have q7 : x7_1 < (a0.size : Int) := odt
        have hx7 := bt_at a0 x7_1
        replace p7 := eq_true p7
        replace q7 := eq_true q7
        go_wp2
        go_ret2
        exact ⟨by first | rfl | (simp [errW_none, errW_some] <;> rfl) | (simp [*, errW_none, errW_some] <;> rfl), belx HB⟩
      rw [if_pos c12] at H
      have c12b0 : decide ((wrap64 (a1 + 1)) < x7_1) = true := decide_eq_true c12
      clear c12
      by_cases c13 : 0 ≤ a1
      case neg => rw [if_neg c13] at H; exact absurd H (by simp)
      rw [if_pos c13] at H
      have c13b0 : decide (0 ≤ a1) = true := decide_eq_true c13
      clear c13
      by_cases c14 : a1 < (a0.size : Int)
      case neg => rw [if_neg c14] at H; exact absurd H (by simp)
      rw [if_pos c14] at H
      have c14b0 : decide (a1 < (a0.size : Int)) = true := decide_eq_true c14
      clear c14
      by_cases c16 : (bt a0 a1) = 48
      case neg =>
        rw [if_neg c16] at H
        have c16b0 : ((bt a0 a1) == 48) = false := beq_eq_false_iff_ne.mpr c16
        have c16b1 : ((bt a0 a1) != 48) = true := bne_iff_ne.mpr c16
        simp only [Option.some.injEq, Prod.mk.injEq] at H
        obtain ⟨rfl, rfl⟩ := H
        have p5 : 0 ≤ (x7_1 : Int) := odt
        have q5 : x7_1 < (a0.size : Int) := odt
        have hx5 := bt_at a0 x7_1
        replace p5 := eq_true p5
        replace q5 := eq_true q5
        have p7 : 0 ≤ (x7_1 : Int) := odt
        have q7 : x7_1 < (a0.size : Int) := odt
        have hx7 := bt_at a0 x7_1
        replace p7 := eq_true p7
        replace q7 := eq_true q7
        have p15 : 0 ≤ (a1 : Int) := odt
        have q15 : a1 < (a0.size : Int) := odt
        have hx15 := bt_at a0 a1
        replace p15 := eq_true p15
        replace q15 := eq_true q15
        go_wp2
        go_ret2
        exact ⟨by first | rfl | (simp [errW_none, errW_some] <;> rfl) | (simp [*, errW_none, errW_some] <;> rfl), belx HB⟩
      rw [if_pos c16] at H
      have c16b0 : ((bt a0 a1) == 48) = true := beq_iff_eq.mpr c16
      have c16b1 : ((bt a0 a1) != 48) = false := bne_eq_false_iff_eq.mpr c16
      clear c16
      simp only [Option.some.injEq, Prod.mk.injEq] at H
      obtain ⟨rfl, rfl⟩ := H
      have p5 : 0 ≤ (x7_1 : Int) := odt
      have q5 : x7_1 < (a0.size : Int) := odt
      have hx5 := bt_at a0 x7_1
      replace p5 := eq_true p5
      replace q5 := eq_true q5
      have p7 : 0 ≤ (x7_1 : Int) := odt
      have q7 : x7_1 < (a0.size : Int) := odt
      have hx7 := bt_at a0 x7_1
      replace p7 := eq_true p7
      replace q7 := eq_true q7
      have p15 : 0 ≤ (a1 : Int) := odt
      have q15 : a1 < (a0.size : Int) := odt
      have hx15 := bt_at a0 a1
      replace p15 := eq_true p15
      replace q15 := eq_true q15
      go_wp2
      go_ret2
      exact ⟨by first | rfl | (simp [errW_none, errW_some] <;> rfl) | (simp [*, errW_none, errW_some] <;> rfl), belx HB⟩
end Go.Proofs.YtepnbnpgifpfbaaDoor.G
namespace Go.Proofs.YtepnbnpgifpfbaaDoor.G
open Go.RowKit Go.Proofs.YtepnbnpgifpfbaaDoorW.PrintWords Go.Proofs.YtepnbnpgifpfbaaDoorW.PrintLast Go.Proofs.YtepnbnpgifpfbaaDoorW.PrintMore
attribute [local go_sem] max2_int min2_int max_two min_two max_three min_three max_four min_four
set_option linter.unusedVariables false
set_option linter.unusedSimpArgs false
attribute [local go_sem high] eqA35
def scantlingref03_Same.l0 : Nat → List (S35) → List (S35) → Int → Option (Bool)
  | 0, _, _, _ => none
  | k + 1, x0, x1, x5 => if x5 < (x0.length : Int) then (if 0 ≤ x5 then (if x5 < (x1.length : Int) then (if (!(((rd_T35 x0 x5).f0) == ((rd_T35 x1 x5).f0)) || (!(((rd_T35 x0 x5).f1) == ((rd_T35 x1 x5).f1)) || ((!(((rd_T35 x0 x5).f2.f0) == ((rd_T35 x1 x5).f2.f0)) || (!(((rd_T35 x0 x5).f2.f1) == ((rd_T35 x1 x5).f2.f1)) || (!(((rd_T35 x0 x5).f2.f2) == ((rd_T35 x1 x5).f2.f2)) || (!(((rd_T35 x0 x5).f2.f3) == ((rd_T35 x1 x5).f2.f3)))))) || (!((((rd_T35 x0 x5).f3).toList) == (((rd_T35 x1 x5).f3).toList)) || (!(((rd_T35 x0 x5).f4) == ((rd_T35 x1 x5).f4)) || (!(((rd_T35 x0 x5).f5) == ((rd_T35 x1 x5).f5)))))))) = true then (some false) else (scantlingref03_Same.l0 k x0 x1 (wrap64 (x5 + 1)))) else (none)) else (none)) else (some true)
def scantlingref03_Same.f (k : Nat) (l0 : List (S35)) (l1 : List (S35)) : Option (Bool) := if (l0.length : Int) = (l1.length : Int) then (scantlingref03_Same.l0 k l0 l1 0) else (some false)
set_option maxHeartbeats 8000000 in
set_option maxRecDepth 100000 in
theorem scantlingref03_Same.calls (k : Nat) (A0 : Option Addr) (c0 : Nat) (l0 : List (S35)) (A1 : Option Addr) (c1 : Nat) (l1 : List (S35)) (r : Bool) (w : World) (hr0 : Kd.C k35 w A0 l0.length l0) (hc0 : l0.length ≤ c0) (hr1 : Kd.C k35 w A1 l1.length l1) (hc1 : l1.length ≤ c1) (h : scantlingref03_Same.f k l0 l1 = some r) :
    Calls Tryd.prog 13 #[.slice A0 l0.length c0, .slice A1 l1.length c1] w fun e w' => e = .returned (.bool r) ∧ Drawn0 w w' := by
  have hu35 := Tryd.underlying35
  have HR0 := Aside0.mk hr0
  have HC0 := Aside0.mk hc0
  clear hr0 hc0
  have HR1 := Aside0.mk hr1
  have HC1 := Aside0.mk hc1
  clear hr1 hc1
  have H : (if (l0.length : Int) = (l1.length : Int) then (scantlingref03_Same.l0 k l0 l1 0) else (some false)) = some r := h
  clear h
  by_cases c3 : (l0.length : Int) = (l1.length : Int)
  case neg =>
    rw [if_neg c3] at H
    have c3b0 : ((l0.length : Int) == (l1.length : Int)) = false := beq_eq_false_iff_ne.mpr c3
    have c3b1 : ((l0.length : Int) != (l1.length : Int)) = true := bne_iff_ne.mpr c3
    have c3b2 : (l0.length == l1.length) = false := by first | simpa using c3 | (simp at c3 ⊢; omega)
    obtain rfl := Option.some.inj H
    go_enter Tryd.func13, Tryd.ntmps13
    go_wp2
    repeat (go_quiet (fail); try go_wp2)
    go_ret
    exact ⟨by first | rfl | (simp; done) | (simp [*]; done) | (simp [*, IntKind.wrap_i64, wrap64]; done), by repeat (first | exact Drawn0.refl _ | apply Drawn0.step)⟩
  rw [if_pos c3] at H
  have c3b0 : ((l0.length : Int) == (l1.length : Int)) = true := beq_iff_eq.mpr c3
  have c3b1 : ((l0.length : Int) != (l1.length : Int)) = false := bne_eq_false_iff_eq.mpr c3
  have c3b2 : (l0.length == l1.length) = true := by first | simpa using c3 | (simp at c3 ⊢; omega)
  clear c3
  have H' := Aside0.mk H
  clear H
  go_enter Tryd.func13, Tryd.ntmps13
  go_wp2
  repeat (go_quiet (fail); try go_wp2)
  go_loopg [5] k (fun kq v5 w' => ∃ (x5_1 : Int), v5 = .int .i64 x5_1 ∧ Aside0 (scantlingref03_Same.l0 kq l0 l1 x5_1 = some r) ∧ Aside0 (kq ≤ k) ∧ Drawn0 w w')
  case atStart => exact ⟨(0), (by first | rfl | (simp; done) | (simp [*]; done) | exact congrArg (Value.int .i64) (by unfold wrap64; omega)), (by first | exact H' | (subst_vars; exact H')), ⟨Nat.le_refl _⟩, by repeat (first | exact Drawn0.refl _ | apply Drawn0.step)⟩
  case round =>
    clear H'
    try clear c3; try clear c3b0; try clear c3b1; try clear c3b2
    obtain ⟨x5_1, rfl, HA, HK1, ⟨m1, rfl⟩⟩ := hrel
    cases gk with
    | zero => exact absurd HA.out (by simp [scantlingref03_Same.l0])
    | succ k1 =>
      have H := HA.out
      clear HA
      simp only [scantlingref03_Same.l0] at H
      by_cases c4 : x5_1 < (l0.length : Int)
      case neg =>
        rw [if_neg c4] at H
        have c4b0 : decide (x5_1 < (l0.length : Int)) = false := decide_eq_false c4
        clear c4
        obtain rfl := Option.some.inj H
        go_wp2
        repeat (go_quiet (fail); try go_wp2)
        go_ret
        exact ⟨by first | rfl | (simp; done) | (simp [*]; done) | (simp [*, IntKind.wrap_i64, wrap64]; done), by repeat (first | exact Drawn0.refl _ | apply Drawn0.step)⟩
      rw [if_pos c4] at H
      have c4b0 : decide (x5_1 < (l0.length : Int)) = true := decide_eq_true c4
      clear c4
      by_cases c5 : 0 ≤ x5_1
      case neg => rw [if_neg c5] at H; exact absurd H (by simp)
      rw [if_pos c5] at H
      have c5b0 : decide (0 ≤ x5_1) = true := decide_eq_true c5
      clear c5
      by_cases c6 : x5_1 < (l1.length : Int)
      case neg => rw [if_neg c6] at H; exact absurd H (by simp)
      rw [if_pos c6] at H
      have c6b0 : decide (x5_1 < (l1.length : Int)) = true := decide_eq_true c6
      clear c6
      by_cases c7 : (!(((rd_T35 l0 x5_1).f0) == ((rd_T35 l1 x5_1).f0)) || (!(((rd_T35 l0 x5_1).f1) == ((rd_T35 l1 x5_1).f1)) || ((!(((rd_T35 l0 x5_1).f2.f0) == ((rd_T35 l1 x5_1).f2.f0)) || (!(((rd_T35 l0 x5_1).f2.f1) == ((rd_T35 l1 x5_1).f2.f1)) || (!(((rd_T35 l0 x5_1).f2.f2) == ((rd_T35 l1 x5_1).f2.f2)) || (!(((rd_T35 l0 x5_1).f2.f3) == ((rd_T35 l1 x5_1).f2.f3)))))) || (!((((rd_T35 l0 x5_1).f3).toList) == (((rd_T35 l1 x5_1).f3).toList)) || (!(((rd_T35 l0 x5_1).f4) == ((rd_T35 l1 x5_1).f4)) || (!(((rd_T35 l0 x5_1).f5) == ((rd_T35 l1 x5_1).f5)))))))) = true
      case pos =>
        rw [if_pos c7] at H
        have c7b0 : (!(((rd_T35 l0 x5_1).f0) == ((rd_T35 l1 x5_1).f0)) || (!(((rd_T35 l0 x5_1).f1) == ((rd_T35 l1 x5_1).f1)) || ((!(((rd_T35 l0 x5_1).f2.f0) == ((rd_T35 l1 x5_1).f2.f0)) || (!(((rd_T35 l0 x5_1).f2.f1) == ((rd_T35 l1 x5_1).f2.f1)) || (!(((rd_T35 l0 x5_1).f2.f2) == ((rd_T35 l1 x5_1).f2.f2)) || (!(((rd_T35 l0 x5_1).f2.f3) == ((rd_T35 l1 x5_1).f2.f3)))))) || (!((((rd_T35 l0 x5_1).f3).toList) == (((rd_T35 l1 x5_1).f3).toList)) || (!(((rd_T35 l0 x5_1).f4) == ((rd_T35 l1 x5_1).f4)) || (!(((rd_T35 l0 x5_1).f5) == ((rd_T35 l1 x5_1).f5)))))))) = true := c7
        clear c7
        obtain rfl := Option.some.inj H
        have p279 : 0 ≤ (x5_1 : Int) := odt
        have q279 : x5_1 < (l0.length : Int) := odt
        obtain ⟨ad279, e279, hx279_0, hx279_1, hx279_2, hx279_3, hx279_4, hx279_5, hx279_6, hx279_7, hx279_8⟩ := at_T35 HR0.out x5_1 p279 q279
        cases e279
        replace p279 := eq_true p279
        replace q279 := eq_true q279
        have p280 : 0 ≤ (x5_1 : Int) := odt
        have q280 : x5_1 < (l1.length : Int) := odt
        obtain ⟨ad280, e280, hx280_0, hx280_1, hx280_2, hx280_3, hx280_4, hx280_5, hx280_6, hx280_7, hx280_8⟩ := at_T35 HR1.out x5_1 p280 q280
        cases e280
        replace p280 := eq_true p280
        replace q280 := eq_true q280
        go_wp2
        repeat (go_quiet (fail); try go_wp2)
        go_ret
        exact ⟨by first | rfl | (simp; done) | (simp [*]; done) | (simp [*, IntKind.wrap_i64, wrap64]; done), by repeat (first | exact Drawn0.refl _ | apply Drawn0.step)⟩
      rw [if_neg c7] at H
      have c7b0 : (!(((rd_T35 l0 x5_1).f0) == ((rd_T35 l1 x5_1).f0)) || (!(((rd_T35 l0 x5_1).f1) == ((rd_T35 l1 x5_1).f1)) || ((!(((rd_T35 l0 x5_1).f2.f0) == ((rd_T35 l1 x5_1).f2.f0)) || (!(((rd_T35 l0 x5_1).f2.f1) == ((rd_T35 l1 x5_1).f2.f1)) || (!(((rd_T35 l0 x5_1).f2.f2) == ((rd_T35 l1 x5_1).f2.f2)) || (!(((rd_T35 l0 x5_1).f2.f3) == ((rd_T35 l1 x5_1).f2.f3)))))) || (!((((rd_T35 l0 x5_1).f3).toList) == (((rd_T35 l1 x5_1).f3).toList)) || (!(((rd_T35 l0 x5_1).f4) == ((rd_T35 l1 x5_1).f4)) || (!(((rd_T35 l0 x5_1).f5) == ((rd_T35 l1 x5_1).f5)))))))) = false := by simpa using c7
      clear c7
      have H' := Aside0.mk H
      clear H
      have p279 : 0 ≤ (x5_1 : Int) := odt
      have q279 : x5_1 < (l0.length : Int) := odt
      obtain ⟨ad279, e279, hx279_0, hx279_1, hx279_2, hx279_3, hx279_4, hx279_5, hx279_6, hx279_7, hx279_8⟩ := at_T35 HR0.out x5_1 p279 q279
      cases e279
      replace p279 := eq_true p279
      replace q279 := eq_true q279
      have p280 : 0 ≤ (x5_1 : Int) := odt
      have q280 : x5_1 < (l1.length : Int) := odt
      obtain ⟨ad280, e280, hx280_0, hx280_1, hx280_2, hx280_3, hx280_4, hx280_5, hx280_6, hx280_7, hx280_8⟩ := at_T35 HR1.out x5_1 p280 q280
      cases e280
      replace p280 := eq_true p280
      replace q280 := eq_true q280
      go_wp2
      repeat (go_quiet (fail); try go_wp2)
      go_roundg k1
      case measure => have := HK1.out; omega
      case rel => exact ⟨(wrap64 (x5_1 + 1)), (by first | rfl | (simp; done) | (simp [*]; done) | exact congrArg (Value.int .i64) (by unfold wrap64; omega)), (by first | exact H' | (subst_vars; exact H')), ⟨by have := HK1.out; omega⟩, by repeat (first | exact Drawn0.refl _ | apply Drawn0.step)⟩
end Go.Proofs.YtepnbnpgifpfbaaDoor.G
