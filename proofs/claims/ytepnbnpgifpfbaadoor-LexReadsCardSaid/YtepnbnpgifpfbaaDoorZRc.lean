/- Lemmas and walks of this claim: GScantlingref03Bytes. -/
import Derived.Test.YtepnbnpgifpfbaaDoorZKb
import Derived.Test.YtepnbnpgifpfbaaDoorZRa
import Derived.Test.YtepnbnpgifpfbaaDoorZRb
set_option linter.unusedVariables false
set_option linter.unusedSimpArgs false
namespace Go.Proofs.YtepnbnpgifpfbaaDoor.G
open Go.RowKit Go.Proofs.YtepnbnpgifpfbaaDoorW.PrintWords Go.Proofs.YtepnbnpgifpfbaaDoorW.PrintLast Go.Proofs.YtepnbnpgifpfbaaDoorW.PrintMore
attribute [local go_sem] max2_int min2_int max_two min_two max_three min_three max_four min_four
set_option linter.unusedVariables false
set_option linter.unusedSimpArgs false
mutual
def scantlingref03_bytes.j0 : Nat → ByteArray → Int → Bool → Bool → Option (Int × Int × Int × Int × Bool)
  | 0, _, _, _, _ => none
  | k + 1, x0, x4, x5, x16 => if x16 = true then (scantlingref03_bytes.j1 k x0 1 true) else (scantlingref03_bytes.j1 k x0 x4 x5)
def scantlingref03_bytes.j1 : Nat → ByteArray → Int → Bool → Option (Int × Int × Int × Int × Bool)
  | 0, _, _, _ => none
  | k + 1, x0, x4, x5 => scantlingref03_bytes.l0 k x0 x4 x5 0 0 0 0
def scantlingref03_bytes.l0 : Nat → ByteArray → Int → Bool → Int → Int → Int → Int → Option (Int × Int × Int × Int × Bool)
  | 0, _, _, _, _, _, _, _ => none
  | k + 1, x0, x4, x5, x247000, x247001, x247002, x247003 => if x4 < (x0.size : Int) then ((scantlingref03_pair.f k x0 x4).bind fun t251 => (if (wrap64 (x4 + 2)) < (x0.size : Int) then (if 0 ≤ (wrap64 (x4 + 2)) then (scantlingref03_bytes.j3 k x0 (wrap64 (x4 + 2)) x5 t251 t251 ((bt x0 (wrap64 (x4 + 2))) == 45) x247000 x247001 x247002 x247003) else (none)) else (scantlingref03_bytes.j3 k x0 (wrap64 (x4 + 2)) x5 t251 t251 false x247000 x247001 x247002 x247003))) else (if x5 = true then ((scantlingref01_Not.f k x247000 x247001 x247002 x247003).bind fun bt247 => (some (bt247.1, bt247.2.1, bt247.2.2.1, bt247.2.2.2, true))) else (some (x247000, x247001, x247002, x247003, true)))
def scantlingref03_bytes.j3 : Nat → ByteArray → Int → Bool → Int → Int → Bool → Int → Int → Int → Int → Option (Int × Int × Int × Int × Bool)
  | 0, _, _, _, _, _, _, _, _, _, _ => none
  | k + 1, x0, x4, x5, x7, x8, x36, x247000, x247001, x247002, x247003 => if x36 = true then ((scantlingref03_pair.f k x0 (wrap64 (x4 + 1))).bind fun t252 => (scantlingref03_bytes.j4 k x0 (wrap64 (x4 + 3)) x5 x7 t252 x247000 x247001 x247002 x247003)) else (scantlingref03_bytes.j4 k x0 x4 x5 x7 x8 x247000 x247001 x247002 x247003)
def scantlingref03_bytes.j4 : Nat → ByteArray → Int → Bool → Int → Int → Int → Int → Int → Int → Option (Int × Int × Int × Int × Bool)
  | 0, _, _, _, _, _, _, _, _, _ => none
  | k + 1, x0, x4, x5, x7, x8, x247000, x247001, x247002, x247003 => if x7 < 0 then (scantlingref03_bytes.j5 k x0 x4 x5 x7 x8 true x247000 x247001 x247002 x247003) else (scantlingref03_bytes.j5 k x0 x4 x5 x7 x8 (decide (x8 < x7)) x247000 x247001 x247002 x247003)
def scantlingref03_bytes.j5 : Nat → ByteArray → Int → Bool → Int → Int → Bool → Int → Int → Int → Int → Option (Int × Int × Int × Int × Bool)
  | 0, _, _, _, _, _, _, _, _, _, _ => none
  | k + 1, x0, x4, x5, x7, x8, x49, x247000, x247001, x247002, x247003 => if x49 = true then (some (x247000, x247001, x247002, x247003, false)) else ((scantlingref01_Row.f k ((x7) % 256) ((x8) % 256)).bind fun bt253 => ((scantlingref01_Join.f k x247000 x247001 x247002 x247003 bt253.1 bt253.2.1 bt253.2.2.1 bt253.2.2.2).bind fun bt257 => (if x4 < (x0.size : Int) then (if 0 ≤ x4 then (if (bt x0 x4) = 44 then (if (wrap64 (x4 + 1)) = (x0.size : Int) then (some (bt257.1, bt257.2.1, bt257.2.2.1, bt257.2.2.2, false)) else (scantlingref03_bytes.l0 k x0 (wrap64 (x4 + 1)) x5 bt257.1 bt257.2.1 bt257.2.2.1 bt257.2.2.2)) else (some (bt257.1, bt257.2.1, bt257.2.2.1, bt257.2.2.2, false))) else (none)) else (scantlingref03_bytes.l0 k x0 x4 x5 bt257.1 bt257.2.1 bt257.2.2.1 bt257.2.2.2))))
end
def scantlingref03_bytes.f (k : Nat) (a0 : ByteArray) : Option (Int × Int × Int × Int × Bool) := if (a0.size : Int) > 0 then (if 0 < (a0.size : Int) then (scantlingref03_bytes.j0 k a0 0 false ((bt a0 0) == 94)) else (none)) else (scantlingref03_bytes.j0 k a0 0 false false)
def scantlingref03_bytes.T16 : Bool × List (List Nat × List Nat) := (true, [([], []), ([], []), ([1], [1]), ([], []), ([3], [3]), ([2, 4], [2, 4]), ([0, 5, 5], [0, 5]), ([6, 6, 0, 1, 2, 3, 4, 5, 6], [6])])
def scantlingref03_bytes.B16 : List Nat := [0, 0, 2, 0, 8, 30, 63, 127]
theorem scantlingref03_bytes.tab16 : rtab .any (opsOf Tryd.f34 16) = scantlingref03_bytes.T16 := by kernel_rfl
theorem scantlingref03_bytes.bits16 : waitsOk scantlingref03_bytes.T16.2 scantlingref03_bytes.B16 = true := by kernel_rfl
set_option maxHeartbeats 8000000 in
set_option maxRecDepth 100000 in
theorem scantlingref03_bytes.calls (k : Nat) (a0 : ByteArray) (r1 : Int) (r2 : Int) (r3 : Int) (r4 : Int) (r5 : Bool) (w : World) (h : scantlingref03_bytes.f k a0 = some (r1, r2, r3, r4, r5)) :
    Calls Tryd.prog 34 #[.string a0] w fun e w' => e = .returned (.tuple #[.agg #[.int .u64 r1, .int .u64 r2, .int .u64 r3, .int .u64 r4], .bool r5]) ∧ Below w.heap.size w w' := by
  have hu33 := Tryd.underlying33
  have HB := Aside0.mk (Below.refl w.heap.size w)
  have H : (if (a0.size : Int) > 0 then (if 0 < (a0.size : Int) then (scantlingref03_bytes.j0 k a0 0 false ((bt a0 0) == 94)) else (none)) else (scantlingref03_bytes.j0 k a0 0 false false)) = some (r1, r2, r3, r4, r5) := h
  clear h
  have HC2 := Aside0.mk H
  clear H
  go_enter Tryd.func34, Tryd.ntmps34
  go_upto_region 3 with (first | ((with_reducible refine gate_dst (N := 2) rfl ?_); (try (refine gate_guard (by rfl) ?_; dsimp only)); refine box_event ?hg (N := 2) ?hd (cs := #[.int .u64 0, .int .u64 0, .int .u64 0, .int .u64 0]) (t := 33) ?hr ?_; (case hd => rfl); (case hg => rfl); (case hr => first | (go_simp; done) | (go_simp; rfl)); intro gb245 hg w3 hbox hb; have n0_ := Aside0.mk (below_step (belx HB) hb); have n1_ := Aside0.mk (hbox); have n2_ := Aside0.mk ((by rw [hg]; exact (below_size (belx HB)) : w.heap.size ≤ gb245)); have n3_ := Aside0.mk ((by rw [hg]; exact (below_size (belx HB)) : w.heap.size ≤ gb245)); clear HB; have HB := n0_; have BK245 := n1_; have GW245 := n2_; have GE245 := n3_; clear n0_ n1_ n2_ n3_; clear hb hbox hg))
  (try simp only [Act.put, List.setIfInBounds_toArray, List.set_cons_zero, List.set_cons_succ])
  go_cut [16] (fun v16 wc => ∃ (kq : Nat) (x16_1 : Bool), v16 = .bool x16_1 ∧ Aside0 (scantlingref03_bytes.j0 kq a0 0 false x16_1 = some (r1, r2, r3, r4, r5)) ∧ Aside0 (kq ≤ k) ∧ Aside0 (wc.heap[gb245]? = some (.cells #[.int .u64 0, .int .u64 0, .int .u64 0, .int .u64 0] 33 (0, 0))) ∧ Aside0 (Below w.heap.size w wc))
  case first =>
    have H := HC2.out
    clear HC2
    by_cases c4 : (a0.size : Int) > 0
    · rw [if_pos c4] at H
      have c4b0 : decide (0 < (a0.size : Int)) = true := decide_eq_true c4
      have c4b1 : decide (0 < a0.size) = true := decide_eq_true (by omega)
      clear c4
      (first | rw [c4b0] | (simp only [i64_w, i32_w]; rw [c4b0]) | skip)
      by_cases c5 : 0 < (a0.size : Int)
      · rw [if_pos c5] at H
        have c5b0 : decide (0 < (a0.size : Int)) = true := decide_eq_true c5
        have c5b1 : decide (0 < a0.size) = true := decide_eq_true (by omega)
        clear c5
        have H' := Aside0.mk H
        clear H
        have p6 : 0 ≤ (0 : Int) := (by omega)
        have q6 : 0 < a0.size := (by have : (0 : Int) < (a0.size : Int) := odt; omega)
        have hx6 : ∀ h : 0 < a0.size, ((a0[0]'h).toNat : Int) = bt a0 0 := bt_at a0 0
        clear p6
        have qi6 : (0 < (a0.size : Int)) = True := eq_true (odt)
        replace q6 := eq_true q6
        go_wp2
        go_meet
        case rel => exact ⟨_, (((bt a0 0) == 94)), (by first | rfl | (simp; done) | (simp [*]; done) | exact congrArg (Value.int .i64) (by unfold wrap64; omega)), (by first | exact H' | (subst_vars; exact H')), ⟨by first | omega | exact Nat.le_refl _⟩, ⟨bkx BK245⟩, ⟨belx1 HB GE245⟩⟩
      · rw [if_neg c5] at H
        exact absurd H (by simp)
    · rw [if_neg c4] at H
      have c4b0 : decide (0 < (a0.size : Int)) = false := decide_eq_false c4
      have c4b1 : decide (0 < a0.size) = false := decide_eq_false (by omega)
      clear c4
      (first | rw [c4b0] | (simp only [i64_w, i32_w]; rw [c4b0]) | skip)
      have H' := Aside0.mk H
      clear H
      go_wp2
      go_meet
      case rel => exact ⟨_, (false), (by first | rfl | (simp; done) | (simp [*]; done) | exact congrArg (Value.int .i64) (by unfold wrap64; omega)), (by first | exact H' | (subst_vars; exact H')), ⟨by first | omega | exact Nat.le_refl _⟩, ⟨bkx BK245⟩, ⟨belx1 HB GE245⟩⟩
  case rest =>
    clear HC2
    obtain ⟨kq, x16_1, rfl, HA, HJ1, BK245, HB⟩ := hcut
    cases kq with
    | zero => exact absurd HA.out (by simp [scantlingref03_bytes.j0])
    | succ kj1 =>
      have H := HA.out
      clear HA
      simp only [scantlingref03_bytes.j0] at H
      have HC7 := Aside0.mk H
      clear H
      go_upto_if 16 with (fail)
      go_cut [4, 5] (fun v4 v5 wc => ∃ (kq : Nat) (x4_6 : Int) (x5_6 : Bool), v4 = .int .i64 x4_6 ∧ v5 = .bool x5_6 ∧ Aside0 (scantlingref03_bytes.j1 kq a0 x4_6 x5_6 = some (r1, r2, r3, r4, r5)) ∧ Aside0 (kq ≤ kj1) ∧ Aside0 (wc.heap[gb245]? = some (.cells #[.int .u64 0, .int .u64 0, .int .u64 0, .int .u64 0] 33 (0, 0))) ∧ Aside0 (Below w.heap.size w wc))
      case first =>
        have H := HC7.out
        clear HC7
        by_cases c8 : x16_1 = true
        · subst c8
          have H1 : (scantlingref03_bytes.j1 kj1 a0 1 true) = some (r1, r2, r3, r4, r5) := by rw [if_pos rfl] at H; exact H
          clear H
          have H := H1
          clear H1
          have H' := Aside0.mk H
          clear H
          go_wp2
          go_meet
          case rel => exact ⟨_, (1), (true), (by first | rfl | (simp; done) | (simp [*]; done) | exact congrArg (Value.int .i64) (by unfold wrap64; omega)), (by first | rfl | (simp; done) | (simp [*]; done) | exact congrArg (Value.int .i64) (by unfold wrap64; omega)), (by first | exact H' | (subst_vars; exact H')), ⟨by have := HJ1.out; first | omega | exact Nat.le_refl _⟩, ⟨bkx BK245⟩, ⟨belx1 HB GE245⟩⟩
        · replace c8 := Bool.eq_false_iff.mpr c8
          subst c8
          have H1 : (scantlingref03_bytes.j1 kj1 a0 0 false) = some (r1, r2, r3, r4, r5) := by rw [if_neg (show ¬ (false = true) by decide)] at H; exact H
          clear H
          have H := H1
          clear H1
          have H' := Aside0.mk H
          clear H
          go_wp2
          go_meet
          case rel => exact ⟨_, (0), (false), (by first | rfl | (simp; done) | (simp [*]; done) | exact congrArg (Value.int .i64) (by unfold wrap64; omega)), (by first | rfl | (simp; done) | (simp [*]; done) | exact congrArg (Value.int .i64) (by unfold wrap64; omega)), (by first | exact H' | (subst_vars; exact H')), ⟨by have := HJ1.out; first | omega | exact Nat.le_refl _⟩, ⟨bkx BK245⟩, ⟨belx1 HB GE245⟩⟩
      case rest =>
        clear HC7
        obtain ⟨kq, x4_6, x5_6, rfl, rfl, HA, HJ6, BK245, HB⟩ := hcut
        cases kq with
        | zero => exact absurd HA.out (by simp [scantlingref03_bytes.j1])
        | succ kj6 =>
          have H := HA.out
          clear HA
          simp only [scantlingref03_bytes.j1] at H
          have H' := Aside0.mk H
          clear H
          go_wp2_with (first | ((with_reducible refine gate_dst (N := 6) rfl ?_); (try (refine gate_guard (by rfl) ?_; dsimp only)); refine box_event ?hg (N := 6) ?hd (cs := #[.int .u64 0, .int .u64 0, .int .u64 0, .int .u64 0]) (t := 33) ?hr ?_; (case hd => rfl); (case hg => rfl); (case hr => first | (go_simp; done) | (go_simp; rfl)); intro gb246 hg w9 hbox hb; have n0_ := Aside0.mk (blk_below (g := gb245) (o := .cells #[.int .u64 0, .int .u64 0, .int .u64 0, .int .u64 0] 33 (0, 0)) (bkx BK245) hb); have n1_ := Aside0.mk (below_step (belx1 HB GE245) hb); have n2_ := Aside0.mk (hbox); have n3_ := Aside0.mk ((by rw [hg]; exact (below_size (belx1 HB GE245)) : w.heap.size ≤ gb246)); have n4_ := Aside0.mk ((by rw [hg]; exact (below_size (belx1 HB GE245)) : w.heap.size ≤ gb246)); have n5_ := Aside0.mk ((by rw [hg]; exact Nat.ne_of_lt (blk_lt (g := gb245) (o := .cells #[.int .u64 0, .int .u64 0, .int .u64 0, .int .u64 0] 33 (0, 0)) (bkx BK245)) : gb245 ≠ gb246)); have n6_ := Aside0.mk ((by rw [hg]; exact Nat.ne_of_gt (blk_lt (g := gb245) (o := .cells #[.int .u64 0, .int .u64 0, .int .u64 0, .int .u64 0] 33 (0, 0)) (bkx BK245)) : gb246 ≠ gb245)); clear BK245; clear HB; have BK245 := n0_; have HB := n1_; have BK246 := n2_; have GW246 := n3_; have GE246 := n4_; have NB245_246 := n5_; have NB246_245 := n6_; clear n0_ n1_ n2_ n3_ n4_ n5_ n6_; clear hb hbox hg))
          go_simp
          go_loopg [4] kj6 (fun kq v4 w' => ∃ (x4_3 : Int) (x246000_3 : Int) (x246001_3 : Int) (x246002_3 : Int) (x246003_3 : Int) (x247000_3 : Int) (x247001_3 : Int) (x247002_3 : Int) (x247003_3 : Int), v4 = .int .i64 x4_3 ∧ Aside0 (scantlingref03_bytes.l0 kq a0 x4_3 x5_6 x247000_3 x247001_3 x247002_3 x247003_3 = some (r1, r2, r3, r4, r5)) ∧ Aside0 (kq ≤ kj6) ∧ Aside0 (w'.heap[gb245]? = some (.cells #[.int .u64 x246000_3, .int .u64 x246001_3, .int .u64 x246002_3, .int .u64 x246003_3] 33 (0, 0))) ∧ Aside0 (w'.heap[gb246]? = some (.cells #[.int .u64 x247000_3, .int .u64 x247001_3, .int .u64 x247002_3, .int .u64 x247003_3] 33 (0, 0))) ∧ Aside0 (Below w.heap.size w w'))
          case atStart => exact ⟨(x4_6), (0), (0), (0), (0), (0), (0), (0), (0), (by first | rfl | (simp; done) | (simp [*]; done) | exact congrArg (Value.int .i64) (by unfold wrap64; omega)), (by first | exact H' | (subst_vars; exact H')), ⟨Nat.le_refl _⟩, ⟨bkx BK245⟩, ⟨bkx BK246⟩, ⟨belx2 HB GE245 GE246⟩⟩
          case round =>
            clear H'
            obtain ⟨x4_3, x246000_3, x246001_3, x246002_3, x246003_3, x247000_3, x247001_3, x247002_3, x247003_3, rfl, HA, HK3, BK245, BK246, HB⟩ := hrel
            cases gk with
            | zero => exact absurd HA.out (by simp [scantlingref03_bytes.l0])
            | succ k3 =>
              have H := HA.out
              clear HA
              simp only [scantlingref03_bytes.l0] at H
              by_cases c10 : x4_3 < (a0.size : Int)
              case neg =>
                rw [if_neg c10] at H
                have c10b0 : decide (x4_3 < (a0.size : Int)) = false := decide_eq_false c10
                clear c10
                by_cases c69 : x5_6 = true
                case neg =>
                  replace c69 := Bool.eq_false_iff.mpr c69
                  subst c69
                  have H1 : (some (x247000_3, x247001_3, x247002_3, x247003_3, true)) = some (r1, r2, r3, r4, r5) := by rw [if_neg (show ¬ (false = true) by decide)] at H; exact H
                  clear H
                  have H := H1
                  clear H1
                  simp only [Option.some.injEq, Prod.mk.injEq] at H
                  obtain ⟨rfl, rfl, rfl, rfl, rfl⟩ := H
                  have hnb77 := NB246_245.out
                  have hnc77 := NB245_246.out
                  have hcz78_0 : wr.cell? ⟨gb246, 0, none⟩ = some (.int .u64 x247000_3) := (blk_cell BK246.out 0).trans rfl
                  have hcz78_1 : wr.cell? ⟨gb246, 1, none⟩ = some (.int .u64 x247001_3) := (blk_cell BK246.out 1).trans rfl
                  have hcz78_2 : wr.cell? ⟨gb246, 2, none⟩ = some (.int .u64 x247002_3) := (blk_cell BK246.out 2).trans rfl
                  have hcz78_3 : wr.cell? ⟨gb246, 3, none⟩ = some (.int .u64 x247003_3) := (blk_cell BK246.out 3).trans rfl
                  have hfz78_0 := blk_frozen BK246.out 0
                  have hfz78_1 := blk_frozen BK246.out 1
                  have hfz78_2 := blk_frozen BK246.out 2
                  have hfz78_3 := blk_frozen BK246.out 3
                  have hcz79_0 : wr.cell? ⟨gb245, 0, none⟩ = some (.int .u64 x246000_3) := (blk_cell BK245.out 0).trans rfl
                  have hcz79_1 : wr.cell? ⟨gb245, 1, none⟩ = some (.int .u64 x246001_3) := (blk_cell BK245.out 1).trans rfl
                  have hcz79_2 : wr.cell? ⟨gb245, 2, none⟩ = some (.int .u64 x246002_3) := (blk_cell BK245.out 2).trans rfl
                  have hcz79_3 : wr.cell? ⟨gb245, 3, none⟩ = some (.int .u64 x246003_3) := (blk_cell BK245.out 3).trans rfl
                  have hfz79_0 := blk_frozen BK245.out 0
                  have hfz79_1 := blk_frozen BK245.out 1
                  have hfz79_2 := blk_frozen BK245.out 2
                  have hfz79_3 := blk_frozen BK245.out 3
                  go_wp2
                  refine bodyPost_ret (results_ct rfl _ _ gb245 33 #[.int .u64 x247000_3, .int .u64 x247001_3, .int .u64 x247002_3, .int .u64 x247003_3] (0, 0) _ rfl (by (with_reducible repeat (first | refine blk_drewN ?_ _ | refine blk_drew ?_ | refine blk_alloc ?_ _)); exact put4h BK245.out) Tryd.underlying33 rfl (by kernel_rfl)) rfl ?_
                  exact ⟨by first | rfl | (simp [errW_none, errW_some] <;> rfl) | (simp [*, errW_none, errW_some] <;> rfl), belx2 HB GE245 GE246⟩
                subst c69
                have H1 : ((scantlingref01_Not.f k3 x247000_3 x247001_3 x247002_3 x247003_3).bind fun bt247 => (some (bt247.1, bt247.2.1, bt247.2.2.1, bt247.2.2.2, true))) = some (r1, r2, r3, r4, r5) := by rw [if_pos rfl] at H; exact H
                clear H
                have H := H1
                clear H1
                replace H := Option.bind_eq_some_iff.mp H
                obtain ⟨⟨t247, t248, t249, t250⟩, A700, H⟩ := H
                replace H : (some (t247, t248, t249, t250, true)) = some (r1, r2, r3, r4, r5) := H
                have A70 := Aside0.mk A700
                clear A700
                simp only [Option.some.injEq, Prod.mk.injEq] at H
                obtain ⟨rfl, rfl, rfl, rfl, rfl⟩ := H
                have hnb71 := NB246_245.out
                have hnc71 := NB245_246.out
                have hcz72_0 : wr.cell? ⟨gb246, 0, none⟩ = some (.int .u64 x247000_3) := (blk_cell BK246.out 0).trans rfl
                have hcz72_1 : wr.cell? ⟨gb246, 1, none⟩ = some (.int .u64 x247001_3) := (blk_cell BK246.out 1).trans rfl
                have hcz72_2 : wr.cell? ⟨gb246, 2, none⟩ = some (.int .u64 x247002_3) := (blk_cell BK246.out 2).trans rfl
                have hcz72_3 : wr.cell? ⟨gb246, 3, none⟩ = some (.int .u64 x247003_3) := (blk_cell BK246.out 3).trans rfl
                have hfz72_0 := blk_frozen BK246.out 0
                have hfz72_1 := blk_frozen BK246.out 1
                have hfz72_2 := blk_frozen BK246.out 2
                have hfz72_3 := blk_frozen BK246.out 3
                go_wp2_with (first | ((with_reducible refine gate_callee (f := 18) rfl ?_); refine goesL_ (some 78) rfl rfl Tryd.func18 (by kernel_rfl) rfl #[.agg #[.int .u64 x247000_3, .int .u64 x247001_3, .int .u64 x247002_3, .int .u64 x247003_3]] rfl (by (try simp only [List.map_toArray, List.map_cons, List.map_nil]); first | done | rfl | (simp only [List.length_drop, List.length_take]; rfl)) ?_; (with_reducible refine (scantlingref01_Not.calls k3 x247000_3 x247001_3 x247002_3 x247003_3 t247 t248 t249 t250 _ A70.out).mono ?_); rintro e w73 ⟨rfl, hb⟩; refine ⟨_, rfl, ?_⟩; have n0_ := Aside0.mk (blk_below (g := gb245) (o := .cells #[.int .u64 x246000_3, .int .u64 x246001_3, .int .u64 x246002_3, .int .u64 x246003_3] 33 (0, 0)) (bkx BK245) hb); have n1_ := Aside0.mk (blk_below (g := gb246) (o := .cells #[.int .u64 x247000_3, .int .u64 x247001_3, .int .u64 x247002_3, .int .u64 x247003_3] 33 (0, 0)) (bkx BK246) hb); have n2_ := Aside0.mk (below_step (belx2 HB GE245 GE246) hb); clear BK245; clear BK246; clear HB; have BK245 := n0_; have BK246 := n1_; have HB := n2_; clear n0_ n1_ n2_; (try clear hb); (try clear hb2); (try clear hk); (try clear hi); obtain ⟨hcz74_0, hcz74_1, hcz74_2, hcz74_3, hfz74_0, hfz74_1, hfz74_2, hfz74_3⟩ := cells4 BK246.out; obtain ⟨hcz75_0, hcz75_1, hcz75_2, hcz75_3, hfz75_0, hfz75_1, hfz75_2, hfz75_3⟩ := cells4 BK245.out) | ((with_reducible refine gate_store (t := 33) (p := 2) rfl ?_); refine store_event (t := 33) (p := 2) (v := ?vo_w76) (w1 := ((((((((w73.setCell ⟨gb246, 0, none⟩ (.int .u64 t247)).setCell ⟨gb246, 1, none⟩ (.int .u64 t248)).setCell ⟨gb246, 2, none⟩ (.int .u64 t249)).setCell ⟨gb246, 3, none⟩ (.int .u64 t250)).setCell ⟨gb245, 0, none⟩ (.int .u64 t247)).setCell ⟨gb245, 1, none⟩ (.int .u64 t248)).setCell ⟨gb245, 2, none⟩ (.int .u64 t249)).setCell ⟨gb245, 3, none⟩ (.int .u64 t250))) ?hg ?ho ?hn ?hr ?_; (case ho => rfl); (case hg => rfl); (case hn => rfl); (case hr => first | (go_simp; done) | (go_simp; rfl)); intro w76 hw; have n0_ : Aside0 (w76.heap[gb245]? = some (.cells #[.int .u64 t247, .int .u64 t248, .int .u64 t249, .int .u64 t250] 33 (0, 0))) := ⟨(by rw [hw]; exact (by (with_reducible repeat (first | refine blk_drewN ?_ _ | refine blk_drew ?_ | refine blk_alloc ?_ _)); refine blk_put (cs := #[.int .u64 t247, .int .u64 t248, .int .u64 t249, .int .u64 x246003_3]) ?_ 3 _ rfl; (with_reducible repeat (first | refine blk_drewN ?_ _ | refine blk_drew ?_ | refine blk_alloc ?_ _)); refine blk_put (cs := #[.int .u64 t247, .int .u64 t248, .int .u64 x246002_3, .int .u64 x246003_3]) ?_ 2 _ rfl; (with_reducible repeat (first | refine blk_drewN ?_ _ | refine blk_drew ?_ | refine blk_alloc ?_ _)); refine blk_put (cs := #[.int .u64 t247, .int .u64 x246001_3, .int .u64 x246002_3, .int .u64 x246003_3]) ?_ 1 _ rfl; (with_reducible repeat (first | refine blk_drewN ?_ _ | refine blk_drew ?_ | refine blk_alloc ?_ _)); refine blk_put (cs := #[.int .u64 x246000_3, .int .u64 x246001_3, .int .u64 x246002_3, .int .u64 x246003_3]) ?_ 0 _ rfl; (with_reducible repeat (first | refine blk_drewN ?_ _ | refine blk_drew ?_ | refine blk_alloc ?_ _ | refine blk_far ?_ NB245_246.out _)); exact BK245.out))⟩; have n1_ : Aside0 (w76.heap[gb246]? = some (.cells #[.int .u64 t247, .int .u64 t248, .int .u64 t249, .int .u64 t250] 33 (0, 0))) := ⟨(by rw [hw]; exact (by (with_reducible repeat (first | refine blk_drewN ?_ _ | refine blk_drew ?_ | refine blk_alloc ?_ _ | refine blk_far ?_ NB246_245.out _)); exact put4h BK246.out))⟩; have n2_ : Aside0 (Below w.heap.size w w76) := ⟨(by rw [hw]; exact (belx2 HB GE245 GE246))⟩; clear hw; clear BK245; clear BK246; clear HB; have BK245 := n0_; have BK246 := n1_; have HB := n2_; clear n0_ n1_ n2_))
                refine bodyPost_ret (results_ct rfl _ _ gb245 33 #[.int .u64 t247, .int .u64 t248, .int .u64 t249, .int .u64 t250] (0, 0) _ rfl (bkx BK245) Tryd.underlying33 rfl (by kernel_rfl)) rfl ?_
                exact ⟨by first | rfl | (simp [errW_none, errW_some] <;> rfl) | (simp [*, errW_none, errW_some] <;> rfl), belx2 HB GE245 GE246⟩
              rw [if_pos c10] at H
              have c10b0 : decide (x4_3 < (a0.size : Int)) = true := decide_eq_true c10
              clear c10
              replace H := Option.bind_eq_some_iff.mp H
              obtain ⟨t251, A110, H⟩ := H
              replace H : (if (wrap64 (x4_3 + 2)) < (a0.size : Int) then (if 0 ≤ (wrap64 (x4_3 + 2)) then (scantlingref03_bytes.j3 k3 a0 (wrap64 (x4_3 + 2)) x5_6 t251 t251 ((bt a0 (wrap64 (x4_3 + 2))) == 45) x247000_3 x247001_3 x247002_3 x247003_3) else (none)) else (scantlingref03_bytes.j3 k3 a0 (wrap64 (x4_3 + 2)) x5_6 t251 t251 false x247000_3 x247001_3 x247002_3 x247003_3)) = some (r1, r2, r3, r4, r5) := H
              have A11 := Aside0.mk A110
              clear A110
              have HC12 := Aside0.mk H
              clear H
              go_upto_region 11 with (first | ((with_reducible refine gate_callee (f := 41) rfl ?_); refine goesL_ (some 23) rfl rfl Tryd.func41 (by kernel_rfl) rfl #[.string a0, .int .i64 x4_3] rfl (by (try simp only [List.map_toArray, List.map_cons, List.map_nil]); first | done | rfl | (simp only [List.length_drop, List.length_take]; rfl)) ?_; (with_reducible refine (scantlingref03_pair.calls k3 a0 x4_3 t251 _ A11.out).mono ?_); rintro e w' ⟨rfl, ⟨nd, rfl⟩⟩; refine ⟨_, rfl, ?_⟩))
              (try simp only [Act.put, List.setIfInBounds_toArray, List.set_cons_zero, List.set_cons_succ])
              go_cut [36] (fun v36 wc => ∃ (kq : Nat) (x36_11 : Bool), v36 = .bool x36_11 ∧ Aside0 (scantlingref03_bytes.j3 kq a0 (wrap64 (x4_3 + 2)) x5_6 t251 t251 x36_11 x247000_3 x247001_3 x247002_3 x247003_3 = some (r1, r2, r3, r4, r5)) ∧ Aside0 (kq ≤ k3) ∧ Aside0 (wc.heap[gb245]? = some (.cells #[.int .u64 x246000_3, .int .u64 x246001_3, .int .u64 x246002_3, .int .u64 x246003_3] 33 (0, 0))) ∧ Aside0 (wc.heap[gb246]? = some (.cells #[.int .u64 x247000_3, .int .u64 x247001_3, .int .u64 x247002_3, .int .u64 x247003_3] 33 (0, 0))) ∧ Aside0 (Below w.heap.size w wc))
              case first =>
                have H := HC12.out
                clear HC12
                by_cases c13 : (wrap64 (x4_3 + 2)) < (a0.size : Int)
                · rw [if_pos c13] at H
                  have c13b0 : decide ((wrap64 (x4_3 + 2)) < (a0.size : Int)) = true := decide_eq_true c13
                  clear c13
                  (first | rw [c13b0] | (simp only [i64_w, i32_w]; rw [c13b0]) | skip)
                  obtain ⟨ji14, hji14⟩ : ∃ j_ : Int, (wrap64 (x4_3 + 2)) = j_ := ⟨_, rfl⟩
                  replace H : (if 0 ≤ (ji14) then (scantlingref03_bytes.j3 k3 a0 ji14 x5_6 t251 t251 ((bt a0 (ji14)) == 45) x247000_3 x247001_3 x247002_3 x247003_3) else (none)) = some (r1, r2, r3, r4, r5) := by first | (rw [hji14] at H; exact H) | (simp only [hji14] at H ⊢; exact H)
                  (try rw [hji14] at c13b0)
                  have hji14w : (IntKind.i64.wrap (x4_3 + 2)) = ji14 := (i64_w _).trans hji14
                  by_cases c15 : 0 ≤ (ji14)
                  · rw [if_pos c15] at H
                    have c15b0 : decide (0 ≤ (ji14)) = true := decide_eq_true c15
                    clear c15
                    have H' := Aside0.mk H
                    clear H
                    have p16 : 0 ≤ ((ji14) : Int) := odt
                    have q16 : (ji14) < (a0.size : Int) := odt
                    have hx16 := bt_at a0 (ji14)
                    replace p16 := eq_true p16
                    replace q16 := eq_true q16
                    go_wp2
                    go_meet
                    case rel => exact ⟨_, (((bt a0 (ji14)) == 45)), (by first | rfl | (simp; done) | (simp only [← hji14] <;> (first | rfl | (simp; done))) | (simp [*]; done)), (by first | exact H' | (subst_vars; exact H')), ⟨by have := HJ1.out; have := HJ6.out; have := HK3.out; first | omega | exact Nat.le_refl _⟩, ⟨bkx BK245⟩, ⟨bkx BK246⟩, ⟨belx2 HB GE245 GE246⟩⟩
                  · rw [if_neg c15] at H
                    exact absurd H (by simp)
                · rw [if_neg c13] at H
                  have c13b0 : decide ((wrap64 (x4_3 + 2)) < (a0.size : Int)) = false := decide_eq_false c13
                  clear c13
                  (first | rw [c13b0] | (simp only [i64_w, i32_w]; rw [c13b0]) | skip)
                  have H' := Aside0.mk H
                  clear H
                  go_wp2
                  go_meet
                  case rel => exact ⟨_, (false), (by first | rfl | (simp; done) | (simp [*]; done) | exact congrArg (Value.int .i64) (by unfold wrap64; omega)), (by first | exact H' | (subst_vars; exact H')), ⟨by have := HJ1.out; have := HJ6.out; have := HK3.out; first | omega | exact Nat.le_refl _⟩, ⟨bkx BK245⟩, ⟨bkx BK246⟩, ⟨belx2 HB GE245 GE246⟩⟩
              case rest =>
                clear HC12
                try clear c10; try clear c10b0
                obtain ⟨kq, x36_11, rfl, HA, HJ11, BK245, BK246, HB⟩ := hcut
                cases kq with
                | zero => exact absurd HA.out (by simp [scantlingref03_bytes.j3])
                | succ kj11 =>
                  have H := HA.out
                  clear HA
                  simp only [scantlingref03_bytes.j3] at H
                  have HC17 := Aside0.mk H
                  clear H
                  go_upto_if 36 with (fail)
                  go_cut [4, 8] (fun v4 v8 wc => ∃ (kq : Nat) (x4_16 : Int) (x8_16 : Int), v4 = .int .i64 x4_16 ∧ v8 = .int .i64 x8_16 ∧ Aside0 (scantlingref03_bytes.j4 kq a0 x4_16 x5_6 t251 x8_16 x247000_3 x247001_3 x247002_3 x247003_3 = some (r1, r2, r3, r4, r5)) ∧ Aside0 (kq ≤ kj11) ∧ Aside0 (wc.heap[gb245]? = some (.cells #[.int .u64 x246000_3, .int .u64 x246001_3, .int .u64 x246002_3, .int .u64 x246003_3] 33 (0, 0))) ∧ Aside0 (wc.heap[gb246]? = some (.cells #[.int .u64 x247000_3, .int .u64 x247001_3, .int .u64 x247002_3, .int .u64 x247003_3] 33 (0, 0))) ∧ Aside0 (Below w.heap.size w wc))
                  case first =>
                    have H := HC17.out
                    clear HC17
                    by_cases c18 : x36_11 = true
                    · subst c18
                      have H1 : ((scantlingref03_pair.f kj11 a0 (wrap64 ((wrap64 (x4_3 + 2)) + 1))).bind fun t252 => (scantlingref03_bytes.j4 kj11 a0 (wrap64 ((wrap64 (x4_3 + 2)) + 3)) x5_6 t251 t252 x247000_3 x247001_3 x247002_3 x247003_3)) = some (r1, r2, r3, r4, r5) := by rw [if_pos rfl] at H; exact H
                      clear H
                      have H := H1
                      clear H1
                      replace H := Option.bind_eq_some_iff.mp H
                      obtain ⟨t252, A190, H⟩ := H
                      replace H : (scantlingref03_bytes.j4 kj11 a0 (wrap64 ((wrap64 (x4_3 + 2)) + 3)) x5_6 t251 t252 x247000_3 x247001_3 x247002_3 x247003_3) = some (r1, r2, r3, r4, r5) := H
                      have A19 := Aside0.mk A190
                      clear A190
                      have H' := Aside0.mk H
                      clear H
                      go_wp2_with (first | ((with_reducible refine gate_callee (f := 41) rfl ?_); refine goesL_ (some 40) rfl rfl Tryd.func41 (by kernel_rfl) rfl #[.string a0, .int .i64 (wrap64 ((wrap64 (x4_3 + 2)) + 1))] rfl (by (try simp only [List.map_toArray, List.map_cons, List.map_nil]); first | done | rfl | (simp only [List.length_drop, List.length_take]; rfl)) ?_; (with_reducible refine (scantlingref03_pair.calls kj11 a0 (wrap64 ((wrap64 (x4_3 + 2)) + 1)) t252 _ A19.out).mono ?_); rintro e w' ⟨rfl, ⟨nd, rfl⟩⟩; refine ⟨_, rfl, ?_⟩))
                      go_meet
                      case rel => exact ⟨_, (wrap64 ((wrap64 (x4_3 + 2)) + 3)), (t252), (by first | rfl | (simp; done) | (simp [*]; done) | exact congrArg (Value.int .i64) (by unfold wrap64; omega)), (by first | rfl | (simp; done) | (simp [*]; done) | exact congrArg (Value.int .i64) (by unfold wrap64; omega)), (by first | exact H' | (subst_vars; exact H')), ⟨by have := HJ1.out; have := HJ6.out; have := HK3.out; have := HJ11.out; first | omega | exact Nat.le_refl _⟩, ⟨bkx BK245⟩, ⟨bkx BK246⟩, ⟨belx2 HB GE245 GE246⟩⟩
                    · replace c18 := Bool.eq_false_iff.mpr c18
                      subst c18
                      have H1 : (scantlingref03_bytes.j4 kj11 a0 (wrap64 (x4_3 + 2)) x5_6 t251 t251 x247000_3 x247001_3 x247002_3 x247003_3) = some (r1, r2, r3, r4, r5) := by rw [if_neg (show ¬ (false = true) by decide)] at H; exact H
                      clear H
                      have H := H1
                      clear H1
                      have H' := Aside0.mk H
                      clear H
                      go_wp2
                      go_meet
                      case rel => exact ⟨_, ((wrap64 (x4_3 + 2))), (t251), (by first | rfl | (simp; done) | (simp [*]; done) | exact congrArg (Value.int .i64) (by unfold wrap64; omega)), (by first | rfl | (simp; done) | (simp [*]; done) | exact congrArg (Value.int .i64) (by unfold wrap64; omega)), (by first | exact H' | (subst_vars; exact H')), ⟨by have := HJ1.out; have := HJ6.out; have := HK3.out; have := HJ11.out; first | omega | exact Nat.le_refl _⟩, ⟨bkx BK245⟩, ⟨bkx BK246⟩, ⟨belx2 HB GE245 GE246⟩⟩
                  case rest =>
                    clear HC17
                    try clear c10; try clear c10b0
                    obtain ⟨kq, x4_16, x8_16, rfl, rfl, HA, HJ16, BK245, BK246, HB⟩ := hcut
                    cases kq with
                    | zero => exact absurd HA.out (by simp [scantlingref03_bytes.j4])
                    | succ kj16 =>
                      have H := HA.out
                      clear HA
                      simp only [scantlingref03_bytes.j4] at H
                      have HC20 := Aside0.mk H
                      clear H
                      go_upto_region 14 with (fail)
                      go_cut [49] (fun v49 wc => ∃ (kq : Nat) (x49_19 : Bool), v49 = .bool x49_19 ∧ Aside0 (scantlingref03_bytes.j5 kq a0 x4_16 x5_6 t251 x8_16 x49_19 x247000_3 x247001_3 x247002_3 x247003_3 = some (r1, r2, r3, r4, r5)) ∧ Aside0 (kq ≤ kj16) ∧ Aside0 (wc.heap[gb245]? = some (.cells #[.int .u64 x246000_3, .int .u64 x246001_3, .int .u64 x246002_3, .int .u64 x246003_3] 33 (0, 0))) ∧ Aside0 (wc.heap[gb246]? = some (.cells #[.int .u64 x247000_3, .int .u64 x247001_3, .int .u64 x247002_3, .int .u64 x247003_3] 33 (0, 0))) ∧ Aside0 (Below w.heap.size w wc))
                      case first =>
                        have H := HC20.out
                        clear HC20
                        by_cases c21 : t251 < 0
                        · rw [if_pos c21] at H
                          have c21b0 : decide (t251 < 0) = true := decide_eq_true c21
                          clear c21
                          (first | rw [c21b0] | (simp only [i64_w, i32_w]; rw [c21b0]) | skip)
                          have H' := Aside0.mk H
                          clear H
                          go_wp2
                          go_meet
                          case rel => exact ⟨_, (true), (by first | rfl | (simp; done) | (simp [*]; done) | exact congrArg (Value.int .i64) (by unfold wrap64; omega)), (by first | exact H' | (subst_vars; exact H')), ⟨by have := HJ1.out; have := HJ6.out; have := HK3.out; have := HJ11.out; have := HJ16.out; first | omega | exact Nat.le_refl _⟩, ⟨bkx BK245⟩, ⟨bkx BK246⟩, ⟨belx2 HB GE245 GE246⟩⟩
                        · rw [if_neg c21] at H
                          have c21b0 : decide (t251 < 0) = false := decide_eq_false c21
                          clear c21
                          (first | rw [c21b0] | (simp only [i64_w, i32_w]; rw [c21b0]) | skip)
                          have H' := Aside0.mk H
                          clear H
                          go_wp2
                          go_meet
                          case rel => exact ⟨_, (decide (x8_16 < t251)), (by first | rfl | (simp; done) | (simp [*]; done) | exact congrArg (Value.int .i64) (by unfold wrap64; omega)), (by first | exact H' | (subst_vars; exact H')), ⟨by have := HJ1.out; have := HJ6.out; have := HK3.out; have := HJ11.out; have := HJ16.out; first | omega | exact Nat.le_refl _⟩, ⟨bkx BK245⟩, ⟨bkx BK246⟩, ⟨belx2 HB GE245 GE246⟩⟩
                      case rest =>
                        clear HC20
                        try clear c10; try clear c10b0
                        obtain ⟨kq, x49_19, rfl, HA, HJ19, BK245, BK246, HB⟩ := hcut
                        cases kq with
                        | zero => exact absurd HA.out (by simp [scantlingref03_bytes.j5])
                        | succ kj19 =>
                          have H := HA.out
                          clear HA
                          simp only [scantlingref03_bytes.j5] at H
                          by_cases c22 : x49_19 = true
                          case pos =>
                            subst c22
                            have H1 : (some (x247000_3, x247001_3, x247002_3, x247003_3, false)) = some (r1, r2, r3, r4, r5) := by rw [if_pos rfl] at H; exact H
                            clear H
                            have H := H1
                            clear H1
                            simp only [Option.some.injEq, Prod.mk.injEq] at H
                            obtain ⟨rfl, rfl, rfl, rfl, rfl⟩ := H
                            have hnb23 := NB246_245.out
                            have hnc23 := NB245_246.out
                            have hcz24_0 : wc.cell? ⟨gb246, 0, none⟩ = some (.int .u64 x247000_3) := (blk_cell BK246.out 0).trans rfl
                            have hcz24_1 : wc.cell? ⟨gb246, 1, none⟩ = some (.int .u64 x247001_3) := (blk_cell BK246.out 1).trans rfl
                            have hcz24_2 : wc.cell? ⟨gb246, 2, none⟩ = some (.int .u64 x247002_3) := (blk_cell BK246.out 2).trans rfl
                            have hcz24_3 : wc.cell? ⟨gb246, 3, none⟩ = some (.int .u64 x247003_3) := (blk_cell BK246.out 3).trans rfl
                            have hfz24_0 := blk_frozen BK246.out 0
                            have hfz24_1 := blk_frozen BK246.out 1
                            have hfz24_2 := blk_frozen BK246.out 2
                            have hfz24_3 := blk_frozen BK246.out 3
                            have hcz25_0 : wc.cell? ⟨gb245, 0, none⟩ = some (.int .u64 x246000_3) := (blk_cell BK245.out 0).trans rfl
                            have hcz25_1 : wc.cell? ⟨gb245, 1, none⟩ = some (.int .u64 x246001_3) := (blk_cell BK245.out 1).trans rfl
                            have hcz25_2 : wc.cell? ⟨gb245, 2, none⟩ = some (.int .u64 x246002_3) := (blk_cell BK245.out 2).trans rfl
                            have hcz25_3 : wc.cell? ⟨gb245, 3, none⟩ = some (.int .u64 x246003_3) := (blk_cell BK245.out 3).trans rfl
                            have hfz25_0 := blk_frozen BK245.out 0
                            have hfz25_1 := blk_frozen BK245.out 1
                            have hfz25_2 := blk_frozen BK245.out 2
                            have hfz25_3 := blk_frozen BK245.out 3
                            go_wp2
                            refine bodyPost_ret (results_ct rfl _ _ gb245 33 #[.int .u64 x247000_3, .int .u64 x247001_3, .int .u64 x247002_3, .int .u64 x247003_3] (0, 0) _ rfl (by (with_reducible repeat (first | refine blk_drewN ?_ _ | refine blk_drew ?_ | refine blk_alloc ?_ _)); exact put4h BK245.out) Tryd.underlying33 rfl (by kernel_rfl)) rfl ?_
                            exact ⟨by first | rfl | (simp [errW_none, errW_some] <;> rfl) | (simp [*, errW_none, errW_some] <;> rfl), belx2 HB GE245 GE246⟩
                          replace c22 := Bool.eq_false_iff.mpr c22
                          subst c22
                          have H1 : ((scantlingref01_Row.f kj19 ((t251) % 256) ((x8_16) % 256)).bind fun bt253 => ((scantlingref01_Join.f kj19 x247000_3 x247001_3 x247002_3 x247003_3 bt253.1 bt253.2.1 bt253.2.2.1 bt253.2.2.2).bind fun bt257 => (if x4_16 < (a0.size : Int) then (if 0 ≤ x4_16 then (if (bt a0 x4_16) = 44 then (if (wrap64 (x4_16 + 1)) = (a0.size : Int) then (some (bt257.1, bt257.2.1, bt257.2.2.1, bt257.2.2.2, false)) else (scantlingref03_bytes.l0 kj19 a0 (wrap64 (x4_16 + 1)) x5_6 bt257.1 bt257.2.1 bt257.2.2.1 bt257.2.2.2)) else (some (bt257.1, bt257.2.1, bt257.2.2.1, bt257.2.2.2, false))) else (none)) else (scantlingref03_bytes.l0 kj19 a0 x4_16 x5_6 bt257.1 bt257.2.1 bt257.2.2.1 bt257.2.2.2)))) = some (r1, r2, r3, r4, r5) := by rw [if_neg (show ¬ (false = true) by decide)] at H; exact H
                          clear H
                          have H := H1
                          clear H1
                          replace H := Option.bind_eq_some_iff.mp H
                          obtain ⟨⟨t253, t254, t255, t256⟩, A260, H⟩ := H
                          replace H : ((scantlingref01_Join.f kj19 x247000_3 x247001_3 x247002_3 x247003_3 t253 t254 t255 t256).bind fun bt257 => (if x4_16 < (a0.size : Int) then (if 0 ≤ x4_16 then (if (bt a0 x4_16) = 44 then (if (wrap64 (x4_16 + 1)) = (a0.size : Int) then (some (bt257.1, bt257.2.1, bt257.2.2.1, bt257.2.2.2, false)) else (scantlingref03_bytes.l0 kj19 a0 (wrap64 (x4_16 + 1)) x5_6 bt257.1 bt257.2.1 bt257.2.2.1 bt257.2.2.2)) else (some (bt257.1, bt257.2.1, bt257.2.2.1, bt257.2.2.2, false))) else (none)) else (scantlingref03_bytes.l0 kj19 a0 x4_16 x5_6 bt257.1 bt257.2.1 bt257.2.2.1 bt257.2.2.2))) = some (r1, r2, r3, r4, r5) := H
                          have A26 := Aside0.mk A260
                          clear A260
                          replace H := Option.bind_eq_some_iff.mp H
                          obtain ⟨⟨t257, t258, t259, t260⟩, A270, H⟩ := H
                          replace H : (if x4_16 < (a0.size : Int) then (if 0 ≤ x4_16 then (if (bt a0 x4_16) = 44 then (if (wrap64 (x4_16 + 1)) = (a0.size : Int) then (some (t257, t258, t259, t260, false)) else (scantlingref03_bytes.l0 kj19 a0 (wrap64 (x4_16 + 1)) x5_6 t257 t258 t259 t260)) else (some (t257, t258, t259, t260, false))) else (none)) else (scantlingref03_bytes.l0 kj19 a0 x4_16 x5_6 t257 t258 t259 t260)) = some (r1, r2, r3, r4, r5) := H
                          have A27 := Aside0.mk A270
                          clear A270
                          by_cases c28 : x4_16 < (a0.size : Int)
                          case neg =>
                            rw [if_neg c28] at H
                            have c28b0 : decide (x4_16 < (a0.size : Int)) = false := decide_eq_false c28
                            clear c28
                            have H' := Aside0.mk H
                            clear H
                            try go_wp2
                            have n0_ := Aside0.mk (blk_drew BK245.out)
                            have n1_ := Aside0.mk (blk_drew BK246.out)
                            have n2_ := Aside0.mk (below_drew1 HB.out)
                            clear BK245
                            clear BK246
                            clear HB
                            have BK245 := n0_
                            have BK246 := n1_
                            have HB := n2_
                            clear n0_ n1_ n2_
                            refine start_ (n := 8) (S := fun w' => w'.cell? ⟨gb246, 0, none⟩ = some (.int .u64 x247000_3) ∧ w'.cell? ⟨gb246, 1, none⟩ = some (.int .u64 x247001_3) ∧ w'.cell? ⟨gb246, 2, none⟩ = some (.int .u64 x247002_3) ∧ w'.cell? ⟨gb246, 3, none⟩ = some (.int .u64 x247003_3)) (ds := [7]) #[false, false, false, false, false, false, false, false] (by kernel_rfl) rfl rfl ⟨(blk_cell BK246.out 0).trans rfl, (blk_cell BK246.out 1).trans rfl, (blk_cell BK246.out 2).trans rfl, (blk_cell BK246.out 3).trans rfl⟩ (fun hHeld => ?_); refine with_tabW scantlingref03_bytes.tab16 scantlingref03_bytes.bits16 (fun HT_ HW_ => ?_)
                            generalize wc.drew = w62 at BK245 BK246 HB hHeld ⊢
                            refine pure_ (i := 1) (N := some 52) (v := ?_) (a' := ?_) #[false, true, false, false, false, false, false, false] rfl rfl (any_of HT_.out (by kernel_rfl)) (fun _ _ _ h => h) (Or.inl ⟨by rfl, ?_⟩) ?_ ?_
                            rotate_left
                            · intro w'
                              go_simp
                              with_reducible rfl
                            rotate_left
                            · simp only [Act.put, List.setIfInBounds_toArray, List.set_cons_zero, List.set_cons_succ, i64_w, i32_w]
                              rfl
                            refine pure_ (i := 2) (N := some 53) (v := ?_) (a' := ?_) #[false, true, true, false, false, false, false, false] rfl rfl (any_of HT_.out (by kernel_rfl)) (fun _ _ _ h => h) (Or.inl ⟨by rfl, ?_⟩) ?_ ?_
                            rotate_left
                            · intro w'
                              go_simp
                              with_reducible rfl
                            rotate_left
                            · simp only [Act.put, List.setIfInBounds_toArray, List.set_cons_zero, List.set_cons_succ, i64_w, i32_w]
                              rfl
                            refine pure_ (i := 3) (N := some 54) (v := ?_) (a' := ?_) #[false, true, true, true, false, false, false, false] rfl rfl (any_of HT_.out (by kernel_rfl)) (fun _ _ _ h => h) (Or.inl ⟨by rfl, ?_⟩) ?_ ?_
                            rotate_left
                            · intro w'
                              go_simp
                              with_reducible rfl
                            rotate_left
                            · simp only [Act.put, List.setIfInBounds_toArray, List.set_cons_zero, List.set_cons_succ, i64_w, i32_w]
                              rfl
                            refine pure_ (i := 4) (N := some 55) (v := ?_) (a' := ?_) #[false, true, true, true, true, false, false, false] rfl rfl (any_of HT_.out (by kernel_rfl)) (fun _ _ _ h => h) (Or.inl ⟨by rfl, ?_⟩) ?_ ?_
                            rotate_left
                            · intro w'
                              go_simp
                              with_reducible rfl
                            rotate_left
                            · simp only [Act.put, List.setIfInBounds_toArray, List.set_cons_zero, List.set_cons_succ, i64_w, i32_w]
                              rfl
                            refine take_ (i := 0) (N := some 51) (v := ?_) (a' := ?_) #[true, true, true, true, true, false, false, false] rfl rfl (take_ofW HT_.out HW_.out (by kernel_rfl)) (fun _ _ _ h => h) (Or.inl ⟨by rfl, ?_⟩) hHeld ?_ ?_
                            rotate_left
                            · rintro w' ⟨s0, s1, s2, s3⟩
                              go_simp
                              with_reducible rfl
                            rotate_left
                            · simp only [Act.put, List.setIfInBounds_toArray, List.set_cons_zero, List.set_cons_succ, i64_w, i32_w]
                              rfl
                            refine one_ (i := 5) (N := some 56) #[true, true, true, true, true, true, false, false] rfl rfl (one_of HT_.out (by kernel_rfl)) (by decide) (fun K hK => ?_)
                            refine goes_ Tryd.func17 (by kernel_rfl) rfl #[.int .u8 ((t251) % 256), .int .u8 ((x8_16) % 256)] (by rfl) rfl rfl (by (try simp only [List.map_toArray, List.map_cons, List.map_nil]); first | done | rfl | (simp only [List.length_drop, List.length_take]; rfl)) ?_
                            with_reducible refine (scantlingref01_Row.calls kj19 ((t251) % 256) ((x8_16) % 256) t253 t254 t255 t256 _ A26.out).mono ?_
                            rintro e w63 ⟨rfl, hb⟩
                            refine ⟨_, rfl, ?_⟩
                            have n0_ := Aside0.mk (blk_below (g := gb245) (o := .cells #[.int .u64 x246000_3, .int .u64 x246001_3, .int .u64 x246002_3, .int .u64 x246003_3] 33 (0, 0)) (bkx BK245) hb)
                            have n1_ := Aside0.mk (blk_below (g := gb246) (o := .cells #[.int .u64 x247000_3, .int .u64 x247001_3, .int .u64 x247002_3, .int .u64 x247003_3] 33 (0, 0)) (bkx BK246) hb)
                            have n2_ := Aside0.mk (below_step (belx2 HB GE245 GE246) hb)
                            clear BK245
                            clear BK246
                            clear HB
                            have BK245 := n0_
                            have BK246 := n1_
                            have HB := n2_
                            clear n0_ n1_ n2_
                            (try clear hb)
                            (try clear hb2)
                            (try clear hk)
                            (try clear hi)
                            refine hK.out _ _ ⟨(blk_cell BK246.out 0).trans rfl, (blk_cell BK246.out 1).trans rfl, (blk_cell BK246.out 2).trans rfl, (blk_cell BK246.out 3).trans rfl⟩ (fun hHeld => ?_)
                            clear hK K
                            refine norm_ (a' := ?_) ?_ ?_
                            rotate_left
                            · show Act.put _ (some 56) _ = _
                              simp only [Act.put, List.setIfInBounds_toArray, List.set_cons_zero, List.set_cons_succ, i64_w, i32_w]
                              rfl
                            refine one_ (i := 6) (N := some 57) #[true, true, true, true, true, true, true, false] rfl rfl (one_of HT_.out (by kernel_rfl)) (by decide) (fun K hK => ?_)
                            refine goes_ Tryd.func19 (by kernel_rfl) rfl #[.agg #[.int .u64 x247000_3, .int .u64 x247001_3, .int .u64 x247002_3, .int .u64 x247003_3], .agg #[.int .u64 t253, .int .u64 t254, .int .u64 t255, .int .u64 t256]] (by rfl) rfl rfl (by (try simp only [List.map_toArray, List.map_cons, List.map_nil]); first | done | rfl | (simp only [List.length_drop, List.length_take]; rfl)) ?_
                            with_reducible refine (scantlingref01_Join.calls kj19 x247000_3 x247001_3 x247002_3 x247003_3 t253 t254 t255 t256 t257 t258 t259 t260 _ A27.out).mono ?_
                            rintro e w64 ⟨rfl, hb⟩
                            refine ⟨_, rfl, ?_⟩
                            have n0_ := Aside0.mk (blk_below (g := gb245) (o := .cells #[.int .u64 x246000_3, .int .u64 x246001_3, .int .u64 x246002_3, .int .u64 x246003_3] 33 (0, 0)) (bkx BK245) hb)
                            have n1_ := Aside0.mk (blk_below (g := gb246) (o := .cells #[.int .u64 x247000_3, .int .u64 x247001_3, .int .u64 x247002_3, .int .u64 x247003_3] 33 (0, 0)) (bkx BK246) hb)
                            have n2_ := Aside0.mk (below_step (belx2 HB GE245 GE246) hb)
                            clear BK245
                            clear BK246
                            clear HB
                            have BK245 := n0_
                            have BK246 := n1_
                            have HB := n2_
                            clear n0_ n1_ n2_
                            (try clear hb)
                            (try clear hb2)
                            (try clear hk)
                            (try clear hi)
                            refine hK.out _ _ ⟨(blk_cell BK246.out 0).trans rfl, (blk_cell BK246.out 1).trans rfl, (blk_cell BK246.out 2).trans rfl, (blk_cell BK246.out 3).trans rfl⟩ (fun hHeld => ?_)
                            clear hK K
                            refine norm_ (a' := ?_) ?_ ?_
                            rotate_left
                            · show Act.put _ (some 57) _ = _
                              simp only [Act.put, List.setIfInBounds_toArray, List.set_cons_zero, List.set_cons_succ, i64_w, i32_w]
                              rfl
                            refine last_ (i := 7) (N := none) #[true, true, true, true, true, true, true, true] rfl rfl (one_of HT_.out (by kernel_rfl)) (by decide) (fun K hK => ?_)
                            have hs65 : w64.cell? ⟨gb246, 0, none⟩ = some (.int .u64 x247000_3) := (blk_cell BK246.out 0).trans rfl
                            have hfs65 := blk_frozen BK246.out 0
                            have hns65_0 := NB245_246.out
                            have hms65_0 := NB246_245.out
                            have hs66 : w64.cell? ⟨gb246, 1, none⟩ = some (.int .u64 x247001_3) := (blk_cell BK246.out 1).trans rfl
                            have hfs66 := blk_frozen BK246.out 1
                            have hns66_0 := NB245_246.out
                            have hms66_0 := NB246_245.out
                            have hs67 : w64.cell? ⟨gb246, 2, none⟩ = some (.int .u64 x247002_3) := (blk_cell BK246.out 2).trans rfl
                            have hfs67 := blk_frozen BK246.out 2
                            have hns67_0 := NB245_246.out
                            have hms67_0 := NB246_245.out
                            have hs68 : w64.cell? ⟨gb246, 3, none⟩ = some (.int .u64 x247003_3) := (blk_cell BK246.out 3).trans rfl
                            have hfs68 := blk_frozen BK246.out 3
                            have hns68_0 := NB245_246.out
                            have hms68_0 := NB246_245.out
                            refine skip_ (w1 := ?_) (by rfl) rfl ?_ ?_
                            rotate_left
                            · go_simp
                              rfl
                            refine hK.out _ _ ?_
                            clear hK K
                            refine done_ (done_of HT_.out (by kernel_rfl)) ?_
                            try go_wp2
                            go_roundg kj19
                            case measure => have := HJ1.out; have := HJ6.out; have := HK3.out; have := HJ11.out; have := HJ16.out; have := HJ19.out; omega
                            case rel => exact ⟨(x4_16), (x246000_3), (x246001_3), (x246002_3), (x246003_3), (t257), (t258), (t259), (t260), (by first | rfl | (simp; done) | (simp [*]; done) | exact congrArg (Value.int .i64) (by unfold wrap64; omega)), (by first | exact H' | (subst_vars; exact H')), ⟨by have := HJ1.out; have := HJ6.out; have := HK3.out; have := HJ11.out; have := HJ16.out; have := HJ19.out; omega⟩, ⟨by (with_reducible repeat (first | refine blk_drewN ?_ _ | refine blk_drew ?_ | refine blk_alloc ?_ _ | refine blk_far ?_ NB245_246.out _)); exact BK245.out⟩, ⟨by (with_reducible repeat (first | refine blk_drewN ?_ _ | refine blk_drew ?_ | refine blk_alloc ?_ _)); exact put4h BK246.out⟩, ⟨belx2 HB GE245 GE246⟩⟩
                          rw [if_pos c28] at H
                          have c28b0 : decide (x4_16 < (a0.size : Int)) = true := decide_eq_true c28
                          clear c28
                          by_cases c29 : 0 ≤ x4_16
                          case neg => rw [if_neg c29] at H; exact absurd H (by simp)
                          rw [if_pos c29] at H
                          have c29b0 : decide (0 ≤ x4_16) = true := decide_eq_true c29
                          clear c29
                          by_cases c31 : (bt a0 x4_16) = 44
                          case neg =>
                            rw [if_neg c31] at H
                            have c31b0 : ((bt a0 x4_16) == 44) = false := beq_eq_false_iff_ne.mpr c31
                            have c31b1 : ((bt a0 x4_16) != 44) = true := bne_iff_ne.mpr c31
                            simp only [Option.some.injEq, Prod.mk.injEq] at H
                            obtain ⟨rfl, rfl, rfl, rfl, rfl⟩ := H
                            try go_wp2
                            have n0_ := Aside0.mk (blk_drew BK245.out)
                            have n1_ := Aside0.mk (blk_drew BK246.out)
                            have n2_ := Aside0.mk (below_drew1 HB.out)
                            clear BK245
                            clear BK246
                            clear HB
                            have BK245 := n0_
                            have BK246 := n1_
                            have HB := n2_
                            clear n0_ n1_ n2_
                            refine start_ (n := 8) (S := fun w' => w'.cell? ⟨gb246, 0, none⟩ = some (.int .u64 x247000_3) ∧ w'.cell? ⟨gb246, 1, none⟩ = some (.int .u64 x247001_3) ∧ w'.cell? ⟨gb246, 2, none⟩ = some (.int .u64 x247002_3) ∧ w'.cell? ⟨gb246, 3, none⟩ = some (.int .u64 x247003_3)) (ds := [7]) #[false, false, false, false, false, false, false, false] (by kernel_rfl) rfl rfl ⟨(blk_cell BK246.out 0).trans rfl, (blk_cell BK246.out 1).trans rfl, (blk_cell BK246.out 2).trans rfl, (blk_cell BK246.out 3).trans rfl⟩ (fun hHeld => ?_); refine with_tabW scantlingref03_bytes.tab16 scantlingref03_bytes.bits16 (fun HT_ HW_ => ?_)
                            generalize wc.drew = w51 at BK245 BK246 HB hHeld ⊢
                            refine pure_ (i := 1) (N := some 52) (v := ?_) (a' := ?_) #[false, true, false, false, false, false, false, false] rfl rfl (any_of HT_.out (by kernel_rfl)) (fun _ _ _ h => h) (Or.inl ⟨by rfl, ?_⟩) ?_ ?_
                            rotate_left
                            · intro w'
                              go_simp
                              with_reducible rfl
                            rotate_left
                            · simp only [Act.put, List.setIfInBounds_toArray, List.set_cons_zero, List.set_cons_succ, i64_w, i32_w]
                              rfl
                            refine pure_ (i := 2) (N := some 53) (v := ?_) (a' := ?_) #[false, true, true, false, false, false, false, false] rfl rfl (any_of HT_.out (by kernel_rfl)) (fun _ _ _ h => h) (Or.inl ⟨by rfl, ?_⟩) ?_ ?_
                            rotate_left
                            · intro w'
                              go_simp
                              with_reducible rfl
                            rotate_left
                            · simp only [Act.put, List.setIfInBounds_toArray, List.set_cons_zero, List.set_cons_succ, i64_w, i32_w]
                              rfl
                            refine pure_ (i := 3) (N := some 54) (v := ?_) (a' := ?_) #[false, true, true, true, false, false, false, false] rfl rfl (any_of HT_.out (by kernel_rfl)) (fun _ _ _ h => h) (Or.inl ⟨by rfl, ?_⟩) ?_ ?_
                            rotate_left
                            · intro w'
                              go_simp
                              with_reducible rfl
                            rotate_left
                            · simp only [Act.put, List.setIfInBounds_toArray, List.set_cons_zero, List.set_cons_succ, i64_w, i32_w]
                              rfl
                            refine pure_ (i := 4) (N := some 55) (v := ?_) (a' := ?_) #[false, true, true, true, true, false, false, false] rfl rfl (any_of HT_.out (by kernel_rfl)) (fun _ _ _ h => h) (Or.inl ⟨by rfl, ?_⟩) ?_ ?_
                            rotate_left
                            · intro w'
                              go_simp
                              with_reducible rfl
                            rotate_left
                            · simp only [Act.put, List.setIfInBounds_toArray, List.set_cons_zero, List.set_cons_succ, i64_w, i32_w]
                              rfl
                            refine take_ (i := 0) (N := some 51) (v := ?_) (a' := ?_) #[true, true, true, true, true, false, false, false] rfl rfl (take_ofW HT_.out HW_.out (by kernel_rfl)) (fun _ _ _ h => h) (Or.inl ⟨by rfl, ?_⟩) hHeld ?_ ?_
                            rotate_left
                            · rintro w' ⟨s0, s1, s2, s3⟩
                              go_simp
                              with_reducible rfl
                            rotate_left
                            · simp only [Act.put, List.setIfInBounds_toArray, List.set_cons_zero, List.set_cons_succ, i64_w, i32_w]
                              rfl
                            refine one_ (i := 5) (N := some 56) #[true, true, true, true, true, true, false, false] rfl rfl (one_of HT_.out (by kernel_rfl)) (by decide) (fun K hK => ?_)
                            refine goes_ Tryd.func17 (by kernel_rfl) rfl #[.int .u8 ((t251) % 256), .int .u8 ((x8_16) % 256)] (by rfl) rfl rfl (by (try simp only [List.map_toArray, List.map_cons, List.map_nil]); first | done | rfl | (simp only [List.length_drop, List.length_take]; rfl)) ?_
                            with_reducible refine (scantlingref01_Row.calls kj19 ((t251) % 256) ((x8_16) % 256) t253 t254 t255 t256 _ A26.out).mono ?_
                            rintro e w52 ⟨rfl, hb⟩
                            refine ⟨_, rfl, ?_⟩
                            have n0_ := Aside0.mk (blk_below (g := gb245) (o := .cells #[.int .u64 x246000_3, .int .u64 x246001_3, .int .u64 x246002_3, .int .u64 x246003_3] 33 (0, 0)) (bkx BK245) hb)
                            have n1_ := Aside0.mk (blk_below (g := gb246) (o := .cells #[.int .u64 x247000_3, .int .u64 x247001_3, .int .u64 x247002_3, .int .u64 x247003_3] 33 (0, 0)) (bkx BK246) hb)
                            have n2_ := Aside0.mk (below_step (belx2 HB GE245 GE246) hb)
                            clear BK245
                            clear BK246
                            clear HB
                            have BK245 := n0_
                            have BK246 := n1_
                            have HB := n2_
                            clear n0_ n1_ n2_
                            (try clear hb)
                            (try clear hb2)
                            (try clear hk)
                            (try clear hi)
                            refine hK.out _ _ ⟨(blk_cell BK246.out 0).trans rfl, (blk_cell BK246.out 1).trans rfl, (blk_cell BK246.out 2).trans rfl, (blk_cell BK246.out 3).trans rfl⟩ (fun hHeld => ?_)
                            clear hK K
                            refine norm_ (a' := ?_) ?_ ?_
                            rotate_left
                            · show Act.put _ (some 56) _ = _
                              simp only [Act.put, List.setIfInBounds_toArray, List.set_cons_zero, List.set_cons_succ, i64_w, i32_w]
                              rfl
                            refine one_ (i := 6) (N := some 57) #[true, true, true, true, true, true, true, false] rfl rfl (one_of HT_.out (by kernel_rfl)) (by decide) (fun K hK => ?_)
                            refine goes_ Tryd.func19 (by kernel_rfl) rfl #[.agg #[.int .u64 x247000_3, .int .u64 x247001_3, .int .u64 x247002_3, .int .u64 x247003_3], .agg #[.int .u64 t253, .int .u64 t254, .int .u64 t255, .int .u64 t256]] (by rfl) rfl rfl (by (try simp only [List.map_toArray, List.map_cons, List.map_nil]); first | done | rfl | (simp only [List.length_drop, List.length_take]; rfl)) ?_
                            with_reducible refine (scantlingref01_Join.calls kj19 x247000_3 x247001_3 x247002_3 x247003_3 t253 t254 t255 t256 t257 t258 t259 t260 _ A27.out).mono ?_
                            rintro e w53 ⟨rfl, hb⟩
                            refine ⟨_, rfl, ?_⟩
                            have n0_ := Aside0.mk (blk_below (g := gb245) (o := .cells #[.int .u64 x246000_3, .int .u64 x246001_3, .int .u64 x246002_3, .int .u64 x246003_3] 33 (0, 0)) (bkx BK245) hb)
                            have n1_ := Aside0.mk (blk_below (g := gb246) (o := .cells #[.int .u64 x247000_3, .int .u64 x247001_3, .int .u64 x247002_3, .int .u64 x247003_3] 33 (0, 0)) (bkx BK246) hb)
                            have n2_ := Aside0.mk (below_step (belx2 HB GE245 GE246) hb)
                            clear BK245
                            clear BK246
                            clear HB
                            have BK245 := n0_
                            have BK246 := n1_
                            have HB := n2_
                            clear n0_ n1_ n2_
                            (try clear hb)
                            (try clear hb2)
                            (try clear hk)
                            (try clear hi)
                            refine hK.out _ _ ⟨(blk_cell BK246.out 0).trans rfl, (blk_cell BK246.out 1).trans rfl, (blk_cell BK246.out 2).trans rfl, (blk_cell BK246.out 3).trans rfl⟩ (fun hHeld => ?_)
                            clear hK K
                            refine norm_ (a' := ?_) ?_ ?_
                            rotate_left
                            · show Act.put _ (some 57) _ = _
                              simp only [Act.put, List.setIfInBounds_toArray, List.set_cons_zero, List.set_cons_succ, i64_w, i32_w]
                              rfl
                            refine last_ (i := 7) (N := none) #[true, true, true, true, true, true, true, true] rfl rfl (one_of HT_.out (by kernel_rfl)) (by decide) (fun K hK => ?_)
                            have hs54 : w53.cell? ⟨gb246, 0, none⟩ = some (.int .u64 x247000_3) := (blk_cell BK246.out 0).trans rfl
                            have hfs54 := blk_frozen BK246.out 0
                            have hns54_0 := NB245_246.out
                            have hms54_0 := NB246_245.out
                            have hs55 : w53.cell? ⟨gb246, 1, none⟩ = some (.int .u64 x247001_3) := (blk_cell BK246.out 1).trans rfl
                            have hfs55 := blk_frozen BK246.out 1
                            have hns55_0 := NB245_246.out
                            have hms55_0 := NB246_245.out
                            have hs56 : w53.cell? ⟨gb246, 2, none⟩ = some (.int .u64 x247002_3) := (blk_cell BK246.out 2).trans rfl
                            have hfs56 := blk_frozen BK246.out 2
                            have hns56_0 := NB245_246.out
                            have hms56_0 := NB246_245.out
                            have hs57 : w53.cell? ⟨gb246, 3, none⟩ = some (.int .u64 x247003_3) := (blk_cell BK246.out 3).trans rfl
                            have hfs57 := blk_frozen BK246.out 3
                            have hns57_0 := NB245_246.out
                            have hms57_0 := NB246_245.out
                            refine skip_ (w1 := ?_) (by rfl) rfl ?_ ?_
                            rotate_left
                            · go_simp
                              rfl
                            refine hK.out _ _ ?_
                            clear hK K
                            refine done_ (done_of HT_.out (by kernel_rfl)) ?_
                            have p30 : 0 ≤ (x4_16 : Int) := odt
                            have q30 : x4_16 < (a0.size : Int) := odt
                            have hx30 := bt_at a0 x4_16
                            replace p30 := eq_true p30
                            replace q30 := eq_true q30
                            have hnb58 := NB246_245.out
                            have hnc58 := NB245_246.out
                            have hcz59_0 : w53.cell? ⟨gb246, 0, none⟩ = some (.int .u64 x247000_3) := (blk_cell BK246.out 0).trans rfl
                            have hcz59_1 : w53.cell? ⟨gb246, 1, none⟩ = some (.int .u64 x247001_3) := (blk_cell BK246.out 1).trans rfl
                            have hcz59_2 : w53.cell? ⟨gb246, 2, none⟩ = some (.int .u64 x247002_3) := (blk_cell BK246.out 2).trans rfl
                            have hcz59_3 : w53.cell? ⟨gb246, 3, none⟩ = some (.int .u64 x247003_3) := (blk_cell BK246.out 3).trans rfl
                            have hfz59_0 := blk_frozen BK246.out 0
                            have hfz59_1 := blk_frozen BK246.out 1
                            have hfz59_2 := blk_frozen BK246.out 2
                            have hfz59_3 := blk_frozen BK246.out 3
                            have hcz60_0 : w53.cell? ⟨gb245, 0, none⟩ = some (.int .u64 x246000_3) := (blk_cell BK245.out 0).trans rfl
                            have hcz60_1 : w53.cell? ⟨gb245, 1, none⟩ = some (.int .u64 x246001_3) := (blk_cell BK245.out 1).trans rfl
                            have hcz60_2 : w53.cell? ⟨gb245, 2, none⟩ = some (.int .u64 x246002_3) := (blk_cell BK245.out 2).trans rfl
                            have hcz60_3 : w53.cell? ⟨gb245, 3, none⟩ = some (.int .u64 x246003_3) := (blk_cell BK245.out 3).trans rfl
                            have hfz60_0 := blk_frozen BK245.out 0
                            have hfz60_1 := blk_frozen BK245.out 1
                            have hfz60_2 := blk_frozen BK245.out 2
                            have hfz60_3 := blk_frozen BK245.out 3
                            try go_wp2_with (first | ((with_reducible refine gate_store (t := 33) (p := 2) rfl ?_); refine store_event (t := 33) (p := 2) (v := ?vo_w61) (w1 := ((((((((w53.setCell ⟨gb246, 0, none⟩ (.int .u64 t257)).setCell ⟨gb246, 1, none⟩ (.int .u64 t258)).setCell ⟨gb246, 2, none⟩ (.int .u64 t259)).setCell ⟨gb246, 3, none⟩ (.int .u64 t260)).setCell ⟨gb245, 0, none⟩ (.int .u64 t257)).setCell ⟨gb245, 1, none⟩ (.int .u64 t258)).setCell ⟨gb245, 2, none⟩ (.int .u64 t259)).setCell ⟨gb245, 3, none⟩ (.int .u64 t260))) ?hg ?ho ?hn ?hr ?_; (case ho => rfl); (case hg => rfl); (case hn => rfl); (case hr => first | (go_simp; done) | (go_simp; rfl)); intro w61 hw; have n0_ : Aside0 (w61.heap[gb245]? = some (.cells #[.int .u64 t257, .int .u64 t258, .int .u64 t259, .int .u64 t260] 33 (0, 0))) := ⟨(by rw [hw]; exact (by (with_reducible repeat (first | refine blk_drewN ?_ _ | refine blk_drew ?_ | refine blk_alloc ?_ _)); refine blk_put (cs := #[.int .u64 t257, .int .u64 t258, .int .u64 t259, .int .u64 x246003_3]) ?_ 3 _ rfl; (with_reducible repeat (first | refine blk_drewN ?_ _ | refine blk_drew ?_ | refine blk_alloc ?_ _)); refine blk_put (cs := #[.int .u64 t257, .int .u64 t258, .int .u64 x246002_3, .int .u64 x246003_3]) ?_ 2 _ rfl; (with_reducible repeat (first | refine blk_drewN ?_ _ | refine blk_drew ?_ | refine blk_alloc ?_ _)); refine blk_put (cs := #[.int .u64 t257, .int .u64 x246001_3, .int .u64 x246002_3, .int .u64 x246003_3]) ?_ 1 _ rfl; (with_reducible repeat (first | refine blk_drewN ?_ _ | refine blk_drew ?_ | refine blk_alloc ?_ _)); refine blk_put (cs := #[.int .u64 x246000_3, .int .u64 x246001_3, .int .u64 x246002_3, .int .u64 x246003_3]) ?_ 0 _ rfl; (with_reducible repeat (first | refine blk_drewN ?_ _ | refine blk_drew ?_ | refine blk_alloc ?_ _ | refine blk_far ?_ NB245_246.out _)); exact BK245.out))⟩; have n1_ : Aside0 (w61.heap[gb246]? = some (.cells #[.int .u64 t257, .int .u64 t258, .int .u64 t259, .int .u64 t260] 33 (0, 0))) := ⟨(by rw [hw]; exact (by (with_reducible repeat (first | refine blk_drewN ?_ _ | refine blk_drew ?_ | refine blk_alloc ?_ _ | refine blk_far ?_ NB246_245.out _)); exact put4h BK246.out))⟩; have n2_ : Aside0 (Below w.heap.size w w61) := ⟨(by rw [hw]; exact (belx2 HB GE245 GE246))⟩; clear hw; clear BK245; clear BK246; clear HB; have BK245 := n0_; have BK246 := n1_; have HB := n2_; clear n0_ n1_ n2_))
                            refine bodyPost_ret (results_ct rfl _ _ gb245 33 #[.int .u64 t257, .int .u64 t258, .int .u64 t259, .int .u64 t260] (0, 0) _ rfl (bkx BK245) Tryd.underlying33 rfl (by kernel_rfl)) rfl ?_
                            exact ⟨by first | rfl | (simp [errW_none, errW_some] <;> rfl) | (simp [*, errW_none, errW_some] <;> rfl), belx2 HB GE245 GE246⟩
                          rw [if_pos c31] at H
                          have c31b0 : ((bt a0 x4_16) == 44) = true := beq_iff_eq.mpr c31
                          have c31b1 : ((bt a0 x4_16) != 44) = false := bne_eq_false_iff_eq.mpr c31
                          clear c31
                          by_cases c32 : (wrap64 (x4_16 + 1)) = (a0.size : Int)
                          case neg =>
                            rw [if_neg c32] at H
                            have c32b0 : ((wrap64 (x4_16 + 1)) == (a0.size : Int)) = false := beq_eq_false_iff_ne.mpr c32
                            have c32b1 : ((wrap64 (x4_16 + 1)) != (a0.size : Int)) = true := bne_iff_ne.mpr c32
                            have H' := Aside0.mk H
                            clear H
                            try go_wp2
                            have n0_ := Aside0.mk (blk_drew BK245.out)
                            have n1_ := Aside0.mk (blk_drew BK246.out)
                            have n2_ := Aside0.mk (below_drew1 HB.out)
                            clear BK245
                            clear BK246
                            clear HB
                            have BK245 := n0_
                            have BK246 := n1_
                            have HB := n2_
                            clear n0_ n1_ n2_
                            refine start_ (n := 8) (S := fun w' => w'.cell? ⟨gb246, 0, none⟩ = some (.int .u64 x247000_3) ∧ w'.cell? ⟨gb246, 1, none⟩ = some (.int .u64 x247001_3) ∧ w'.cell? ⟨gb246, 2, none⟩ = some (.int .u64 x247002_3) ∧ w'.cell? ⟨gb246, 3, none⟩ = some (.int .u64 x247003_3)) (ds := [7]) #[false, false, false, false, false, false, false, false] (by kernel_rfl) rfl rfl ⟨(blk_cell BK246.out 0).trans rfl, (blk_cell BK246.out 1).trans rfl, (blk_cell BK246.out 2).trans rfl, (blk_cell BK246.out 3).trans rfl⟩ (fun hHeld => ?_); refine with_tabW scantlingref03_bytes.tab16 scantlingref03_bytes.bits16 (fun HT_ HW_ => ?_)
                            generalize wc.drew = w44 at BK245 BK246 HB hHeld ⊢
                            refine pure_ (i := 1) (N := some 52) (v := ?_) (a' := ?_) #[false, true, false, false, false, false, false, false] rfl rfl (any_of HT_.out (by kernel_rfl)) (fun _ _ _ h => h) (Or.inl ⟨by rfl, ?_⟩) ?_ ?_
                            rotate_left
                            · intro w'
                              go_simp
                              with_reducible rfl
                            rotate_left
                            · simp only [Act.put, List.setIfInBounds_toArray, List.set_cons_zero, List.set_cons_succ, i64_w, i32_w]
                              rfl
                            refine pure_ (i := 2) (N := some 53) (v := ?_) (a' := ?_) #[false, true, true, false, false, false, false, false] rfl rfl (any_of HT_.out (by kernel_rfl)) (fun _ _ _ h => h) (Or.inl ⟨by rfl, ?_⟩) ?_ ?_
                            rotate_left
                            · intro w'
                              go_simp
                              with_reducible rfl
                            rotate_left
                            · simp only [Act.put, List.setIfInBounds_toArray, List.set_cons_zero, List.set_cons_succ, i64_w, i32_w]
                              rfl
                            refine pure_ (i := 3) (N := some 54) (v := ?_) (a' := ?_) #[false, true, true, true, false, false, false, false] rfl rfl (any_of HT_.out (by kernel_rfl)) (fun _ _ _ h => h) (Or.inl ⟨by rfl, ?_⟩) ?_ ?_
                            rotate_left
                            · intro w'
                              go_simp
                              with_reducible rfl
                            rotate_left
                            · simp only [Act.put, List.setIfInBounds_toArray, List.set_cons_zero, List.set_cons_succ, i64_w, i32_w]
                              rfl
                            refine pure_ (i := 4) (N := some 55) (v := ?_) (a' := ?_) #[false, true, true, true, true, false, false, false] rfl rfl (any_of HT_.out (by kernel_rfl)) (fun _ _ _ h => h) (Or.inl ⟨by rfl, ?_⟩) ?_ ?_
                            rotate_left
                            · intro w'
                              go_simp
                              with_reducible rfl
                            rotate_left
                            · simp only [Act.put, List.setIfInBounds_toArray, List.set_cons_zero, List.set_cons_succ, i64_w, i32_w]
                              rfl
                            refine take_ (i := 0) (N := some 51) (v := ?_) (a' := ?_) #[true, true, true, true, true, false, false, false] rfl rfl (take_ofW HT_.out HW_.out (by kernel_rfl)) (fun _ _ _ h => h) (Or.inl ⟨by rfl, ?_⟩) hHeld ?_ ?_
                            rotate_left
                            · rintro w' ⟨s0, s1, s2, s3⟩
                              go_simp
                              with_reducible rfl
                            rotate_left
                            · simp only [Act.put, List.setIfInBounds_toArray, List.set_cons_zero, List.set_cons_succ, i64_w, i32_w]
                              rfl
                            refine one_ (i := 5) (N := some 56) #[true, true, true, true, true, true, false, false] rfl rfl (one_of HT_.out (by kernel_rfl)) (by decide) (fun K hK => ?_)
                            refine goes_ Tryd.func17 (by kernel_rfl) rfl #[.int .u8 ((t251) % 256), .int .u8 ((x8_16) % 256)] (by rfl) rfl rfl (by (try simp only [List.map_toArray, List.map_cons, List.map_nil]); first | done | rfl | (simp only [List.length_drop, List.length_take]; rfl)) ?_
                            with_reducible refine (scantlingref01_Row.calls kj19 ((t251) % 256) ((x8_16) % 256) t253 t254 t255 t256 _ A26.out).mono ?_
                            rintro e w45 ⟨rfl, hb⟩
                            refine ⟨_, rfl, ?_⟩
                            have n0_ := Aside0.mk (blk_below (g := gb245) (o := .cells #[.int .u64 x246000_3, .int .u64 x246001_3, .int .u64 x246002_3, .int .u64 x246003_3] 33 (0, 0)) (bkx BK245) hb)
                            have n1_ := Aside0.mk (blk_below (g := gb246) (o := .cells #[.int .u64 x247000_3, .int .u64 x247001_3, .int .u64 x247002_3, .int .u64 x247003_3] 33 (0, 0)) (bkx BK246) hb)
                            have n2_ := Aside0.mk (below_step (belx2 HB GE245 GE246) hb)
                            clear BK245
                            clear BK246
                            clear HB
                            have BK245 := n0_
                            have BK246 := n1_
                            have HB := n2_
                            clear n0_ n1_ n2_
                            (try clear hb)
                            (try clear hb2)
                            (try clear hk)
                            (try clear hi)
                            refine hK.out _ _ ⟨(blk_cell BK246.out 0).trans rfl, (blk_cell BK246.out 1).trans rfl, (blk_cell BK246.out 2).trans rfl, (blk_cell BK246.out 3).trans rfl⟩ (fun hHeld => ?_)
                            clear hK K
                            refine norm_ (a' := ?_) ?_ ?_
                            rotate_left
                            · show Act.put _ (some 56) _ = _
                              simp only [Act.put, List.setIfInBounds_toArray, List.set_cons_zero, List.set_cons_succ, i64_w, i32_w]
                              rfl
                            refine one_ (i := 6) (N := some 57) #[true, true, true, true, true, true, true, false] rfl rfl (one_of HT_.out (by kernel_rfl)) (by decide) (fun K hK => ?_)
                            refine goes_ Tryd.func19 (by kernel_rfl) rfl #[.agg #[.int .u64 x247000_3, .int .u64 x247001_3, .int .u64 x247002_3, .int .u64 x247003_3], .agg #[.int .u64 t253, .int .u64 t254, .int .u64 t255, .int .u64 t256]] (by rfl) rfl rfl (by (try simp only [List.map_toArray, List.map_cons, List.map_nil]); first | done | rfl | (simp only [List.length_drop, List.length_take]; rfl)) ?_
                            with_reducible refine (scantlingref01_Join.calls kj19 x247000_3 x247001_3 x247002_3 x247003_3 t253 t254 t255 t256 t257 t258 t259 t260 _ A27.out).mono ?_
                            rintro e w46 ⟨rfl, hb⟩
                            refine ⟨_, rfl, ?_⟩
                            have n0_ := Aside0.mk (blk_below (g := gb245) (o := .cells #[.int .u64 x246000_3, .int .u64 x246001_3, .int .u64 x246002_3, .int .u64 x246003_3] 33 (0, 0)) (bkx BK245) hb)
                            have n1_ := Aside0.mk (blk_below (g := gb246) (o := .cells #[.int .u64 x247000_3, .int .u64 x247001_3, .int .u64 x247002_3, .int .u64 x247003_3] 33 (0, 0)) (bkx BK246) hb)
                            have n2_ := Aside0.mk (below_step (belx2 HB GE245 GE246) hb)
                            clear BK245
                            clear BK246
                            clear HB
                            have BK245 := n0_
                            have BK246 := n1_
                            have HB := n2_
                            clear n0_ n1_ n2_
                            (try clear hb)
                            (try clear hb2)
                            (try clear hk)
                            (try clear hi)
                            refine hK.out _ _ ⟨(blk_cell BK246.out 0).trans rfl, (blk_cell BK246.out 1).trans rfl, (blk_cell BK246.out 2).trans rfl, (blk_cell BK246.out 3).trans rfl⟩ (fun hHeld => ?_)
                            clear hK K
                            refine norm_ (a' := ?_) ?_ ?_
                            rotate_left
                            · show Act.put _ (some 57) _ = _
                              simp only [Act.put, List.setIfInBounds_toArray, List.set_cons_zero, List.set_cons_succ, i64_w, i32_w]
                              rfl
                            refine last_ (i := 7) (N := none) #[true, true, true, true, true, true, true, true] rfl rfl (one_of HT_.out (by kernel_rfl)) (by decide) (fun K hK => ?_)
                            have hs47 : w46.cell? ⟨gb246, 0, none⟩ = some (.int .u64 x247000_3) := (blk_cell BK246.out 0).trans rfl
                            have hfs47 := blk_frozen BK246.out 0
                            have hns47_0 := NB245_246.out
                            have hms47_0 := NB246_245.out
                            have hs48 : w46.cell? ⟨gb246, 1, none⟩ = some (.int .u64 x247001_3) := (blk_cell BK246.out 1).trans rfl
                            have hfs48 := blk_frozen BK246.out 1
                            have hns48_0 := NB245_246.out
                            have hms48_0 := NB246_245.out
                            have hs49 : w46.cell? ⟨gb246, 2, none⟩ = some (.int .u64 x247002_3) := (blk_cell BK246.out 2).trans rfl
                            have hfs49 := blk_frozen BK246.out 2
                            have hns49_0 := NB245_246.out
                            have hms49_0 := NB246_245.out
                            have hs50 : w46.cell? ⟨gb246, 3, none⟩ = some (.int .u64 x247003_3) := (blk_cell BK246.out 3).trans rfl
                            have hfs50 := blk_frozen BK246.out 3
                            have hns50_0 := NB245_246.out
                            have hms50_0 := NB246_245.out
                            refine skip_ (w1 := ?_) (by rfl) rfl ?_ ?_
                            rotate_left
                            · go_simp
                              rfl
                            refine hK.out _ _ ?_
                            clear hK K
                            refine done_ (done_of HT_.out (by kernel_rfl)) ?_
                            have p30 : 0 ≤ (x4_16 : Int) := odt
                            have q30 : x4_16 < (a0.size : Int) := odt
                            have hx30 := bt_at a0 x4_16
                            replace p30 := eq_true p30
                            replace q30 := eq_true q30
                            try go_wp2
                            go_roundg kj19
                            case measure => have := HJ1.out; have := HJ6.out; have := HK3.out; have := HJ11.out; have := HJ16.out; have := HJ19.out; omega
                            case rel => exact ⟨(wrap64 (x4_16 + 1)), (x246000_3), (x246001_3), (x246002_3), (x246003_3), (t257), (t258), (t259), (t260), (by first | rfl | (simp; done) | (simp [*]; done) | exact congrArg (Value.int .i64) (by unfold wrap64; omega)), (by first | exact H' | (subst_vars; exact H')), ⟨by have := HJ1.out; have := HJ6.out; have := HK3.out; have := HJ11.out; have := HJ16.out; have := HJ19.out; omega⟩, ⟨by (with_reducible repeat (first | refine blk_drewN ?_ _ | refine blk_drew ?_ | refine blk_alloc ?_ _ | refine blk_far ?_ NB245_246.out _)); exact BK245.out⟩, ⟨by (with_reducible repeat (first | refine blk_drewN ?_ _ | refine blk_drew ?_ | refine blk_alloc ?_ _)); exact put4h BK246.out⟩, ⟨belx2 HB GE245 GE246⟩⟩
                          rw [if_pos c32] at H
                          have c32b0 : ((wrap64 (x4_16 + 1)) == (a0.size : Int)) = true := beq_iff_eq.mpr c32
                          have c32b1 : ((wrap64 (x4_16 + 1)) != (a0.size : Int)) = false := bne_eq_false_iff_eq.mpr c32
                          clear c32
                          simp only [Option.some.injEq, Prod.mk.injEq] at H
                          obtain ⟨rfl, rfl, rfl, rfl, rfl⟩ := H
                          try go_wp2
                          have n0_ := Aside0.mk (blk_drew BK245.out)
                          have n1_ := Aside0.mk (blk_drew BK246.out)
                          have n2_ := Aside0.mk (below_drew1 HB.out)
                          clear BK245
                          clear BK246
                          clear HB
                          have BK245 := n0_
                          have BK246 := n1_
                          have HB := n2_
                          clear n0_ n1_ n2_
                          refine start_ (n := 8) (S := fun w' => w'.cell? ⟨gb246, 0, none⟩ = some (.int .u64 x247000_3) ∧ w'.cell? ⟨gb246, 1, none⟩ = some (.int .u64 x247001_3) ∧ w'.cell? ⟨gb246, 2, none⟩ = some (.int .u64 x247002_3) ∧ w'.cell? ⟨gb246, 3, none⟩ = some (.int .u64 x247003_3)) (ds := [7]) #[false, false, false, false, false, false, false, false] (by kernel_rfl) rfl rfl ⟨(blk_cell BK246.out 0).trans rfl, (blk_cell BK246.out 1).trans rfl, (blk_cell BK246.out 2).trans rfl, (blk_cell BK246.out 3).trans rfl⟩ (fun hHeld => ?_); refine with_tabW scantlingref03_bytes.tab16 scantlingref03_bytes.bits16 (fun HT_ HW_ => ?_)
                          generalize wc.drew = w33 at BK245 BK246 HB hHeld ⊢
                          refine pure_ (i := 1) (N := some 52) (v := ?_) (a' := ?_) #[false, true, false, false, false, false, false, false] rfl rfl (any_of HT_.out (by kernel_rfl)) (fun _ _ _ h => h) (Or.inl ⟨by rfl, ?_⟩) ?_ ?_
                          rotate_left
                          · intro w'
                            go_simp
                            with_reducible rfl
                          rotate_left
                          · simp only [Act.put, List.setIfInBounds_toArray, List.set_cons_zero, List.set_cons_succ, i64_w, i32_w]
                            rfl
                          refine pure_ (i := 2) (N := some 53) (v := ?_) (a' := ?_) #[false, true, true, false, false, false, false, false] rfl rfl (any_of HT_.out (by kernel_rfl)) (fun _ _ _ h => h) (Or.inl ⟨by rfl, ?_⟩) ?_ ?_
                          rotate_left
                          · intro w'
                            go_simp
                            with_reducible rfl
                          rotate_left
                          · simp only [Act.put, List.setIfInBounds_toArray, List.set_cons_zero, List.set_cons_succ, i64_w, i32_w]
                            rfl
                          refine pure_ (i := 3) (N := some 54) (v := ?_) (a' := ?_) #[false, true, true, true, false, false, false, false] rfl rfl (any_of HT_.out (by kernel_rfl)) (fun _ _ _ h => h) (Or.inl ⟨by rfl, ?_⟩) ?_ ?_
                          rotate_left
                          · intro w'
                            go_simp
                            with_reducible rfl
                          rotate_left
                          · simp only [Act.put, List.setIfInBounds_toArray, List.set_cons_zero, List.set_cons_succ, i64_w, i32_w]
                            rfl
                          refine pure_ (i := 4) (N := some 55) (v := ?_) (a' := ?_) #[false, true, true, true, true, false, false, false] rfl rfl (any_of HT_.out (by kernel_rfl)) (fun _ _ _ h => h) (Or.inl ⟨by rfl, ?_⟩) ?_ ?_
                          rotate_left
                          · intro w'
                            go_simp
                            with_reducible rfl
                          rotate_left
                          · simp only [Act.put, List.setIfInBounds_toArray, List.set_cons_zero, List.set_cons_succ, i64_w, i32_w]
                            rfl
                          refine take_ (i := 0) (N := some 51) (v := ?_) (a' := ?_) #[true, true, true, true, true, false, false, false] rfl rfl (take_ofW HT_.out HW_.out (by kernel_rfl)) (fun _ _ _ h => h) (Or.inl ⟨by rfl, ?_⟩) hHeld ?_ ?_
                          rotate_left
                          · rintro w' ⟨s0, s1, s2, s3⟩
                            go_simp
                            with_reducible rfl
                          rotate_left
                          · simp only [Act.put, List.setIfInBounds_toArray, List.set_cons_zero, List.set_cons_succ, i64_w, i32_w]
                            rfl
                          refine one_ (i := 5) (N := some 56) #[true, true, true, true, true, true, false, false] rfl rfl (one_of HT_.out (by kernel_rfl)) (by decide) (fun K hK => ?_)
                          refine goes_ Tryd.func17 (by kernel_rfl) rfl #[.int .u8 ((t251) % 256), .int .u8 ((x8_16) % 256)] (by rfl) rfl rfl (by (try simp only [List.map_toArray, List.map_cons, List.map_nil]); first | done | rfl | (simp only [List.length_drop, List.length_take]; rfl)) ?_
                          with_reducible refine (scantlingref01_Row.calls kj19 ((t251) % 256) ((x8_16) % 256) t253 t254 t255 t256 _ A26.out).mono ?_
                          rintro e w34 ⟨rfl, hb⟩
                          refine ⟨_, rfl, ?_⟩
                          have n0_ := Aside0.mk (blk_below (g := gb245) (o := .cells #[.int .u64 x246000_3, .int .u64 x246001_3, .int .u64 x246002_3, .int .u64 x246003_3] 33 (0, 0)) (bkx BK245) hb)
                          have n1_ := Aside0.mk (blk_below (g := gb246) (o := .cells #[.int .u64 x247000_3, .int .u64 x247001_3, .int .u64 x247002_3, .int .u64 x247003_3] 33 (0, 0)) (bkx BK246) hb)
                          have n2_ := Aside0.mk (below_step (belx2 HB GE245 GE246) hb)
                          clear BK245
                          clear BK246
                          clear HB
                          have BK245 := n0_
                          have BK246 := n1_
                          have HB := n2_
                          clear n0_ n1_ n2_
                          (try clear hb)
                          (try clear hb2)
                          (try clear hk)
                          (try clear hi)
                          refine hK.out _ _ ⟨(blk_cell BK246.out 0).trans rfl, (blk_cell BK246.out 1).trans rfl, (blk_cell BK246.out 2).trans rfl, (blk_cell BK246.out 3).trans rfl⟩ (fun hHeld => ?_)
                          clear hK K
                          refine norm_ (a' := ?_) ?_ ?_
                          rotate_left
                          · show Act.put _ (some 56) _ = _
                            simp only [Act.put, List.setIfInBounds_toArray, List.set_cons_zero, List.set_cons_succ, i64_w, i32_w]
                            rfl
                          refine one_ (i := 6) (N := some 57) #[true, true, true, true, true, true, true, false] rfl rfl (one_of HT_.out (by kernel_rfl)) (by decide) (fun K hK => ?_)
                          refine goes_ Tryd.func19 (by kernel_rfl) rfl #[.agg #[.int .u64 x247000_3, .int .u64 x247001_3, .int .u64 x247002_3, .int .u64 x247003_3], .agg #[.int .u64 t253, .int .u64 t254, .int .u64 t255, .int .u64 t256]] (by rfl) rfl rfl (by (try simp only [List.map_toArray, List.map_cons, List.map_nil]); first | done | rfl | (simp only [List.length_drop, List.length_take]; rfl)) ?_
                          with_reducible refine (scantlingref01_Join.calls kj19 x247000_3 x247001_3 x247002_3 x247003_3 t253 t254 t255 t256 t257 t258 t259 t260 _ A27.out).mono ?_
                          rintro e w35 ⟨rfl, hb⟩
                          refine ⟨_, rfl, ?_⟩
                          have n0_ := Aside0.mk (blk_below (g := gb245) (o := .cells #[.int .u64 x246000_3, .int .u64 x246001_3, .int .u64 x246002_3, .int .u64 x246003_3] 33 (0, 0)) (bkx BK245) hb)
                          have n1_ := Aside0.mk (blk_below (g := gb246) (o := .cells #[.int .u64 x247000_3, .int .u64 x247001_3, .int .u64 x247002_3, .int .u64 x247003_3] 33 (0, 0)) (bkx BK246) hb)
                          have n2_ := Aside0.mk (below_step (belx2 HB GE245 GE246) hb)
                          clear BK245
                          clear BK246
                          clear HB
                          have BK245 := n0_
                          have BK246 := n1_
                          have HB := n2_
                          clear n0_ n1_ n2_
                          (try clear hb)
                          (try clear hb2)
                          (try clear hk)
                          (try clear hi)
                          refine hK.out _ _ ⟨(blk_cell BK246.out 0).trans rfl, (blk_cell BK246.out 1).trans rfl, (blk_cell BK246.out 2).trans rfl, (blk_cell BK246.out 3).trans rfl⟩ (fun hHeld => ?_)
                          clear hK K
                          refine norm_ (a' := ?_) ?_ ?_
                          rotate_left
                          · show Act.put _ (some 57) _ = _
                            simp only [Act.put, List.setIfInBounds_toArray, List.set_cons_zero, List.set_cons_succ, i64_w, i32_w]
                            rfl
                          refine last_ (i := 7) (N := none) #[true, true, true, true, true, true, true, true] rfl rfl (one_of HT_.out (by kernel_rfl)) (by decide) (fun K hK => ?_)
                          have hs36 : w35.cell? ⟨gb246, 0, none⟩ = some (.int .u64 x247000_3) := (blk_cell BK246.out 0).trans rfl
                          have hfs36 := blk_frozen BK246.out 0
                          have hns36_0 := NB245_246.out
                          have hms36_0 := NB246_245.out
                          have hs37 : w35.cell? ⟨gb246, 1, none⟩ = some (.int .u64 x247001_3) := (blk_cell BK246.out 1).trans rfl
                          have hfs37 := blk_frozen BK246.out 1
                          have hns37_0 := NB245_246.out
                          have hms37_0 := NB246_245.out
                          have hs38 : w35.cell? ⟨gb246, 2, none⟩ = some (.int .u64 x247002_3) := (blk_cell BK246.out 2).trans rfl
                          have hfs38 := blk_frozen BK246.out 2
                          have hns38_0 := NB245_246.out
                          have hms38_0 := NB246_245.out
                          have hs39 : w35.cell? ⟨gb246, 3, none⟩ = some (.int .u64 x247003_3) := (blk_cell BK246.out 3).trans rfl
                          have hfs39 := blk_frozen BK246.out 3
                          have hns39_0 := NB245_246.out
                          have hms39_0 := NB246_245.out
                          refine skip_ (w1 := ?_) (by rfl) rfl ?_ ?_
                          rotate_left
                          · go_simp
                            rfl
                          refine hK.out _ _ ?_
                          clear hK K
                          refine done_ (done_of HT_.out (by kernel_rfl)) ?_
                          have p30 : 0 ≤ (x4_16 : Int) := odt
                          have q30 : x4_16 < (a0.size : Int) := odt
                          have hx30 := bt_at a0 x4_16
                          replace p30 := eq_true p30
                          replace q30 := eq_true q30
                          have hnb40 := NB246_245.out
                          have hnc40 := NB245_246.out
                          have hcz41_0 : w35.cell? ⟨gb246, 0, none⟩ = some (.int .u64 x247000_3) := (blk_cell BK246.out 0).trans rfl
                          have hcz41_1 : w35.cell? ⟨gb246, 1, none⟩ = some (.int .u64 x247001_3) := (blk_cell BK246.out 1).trans rfl
                          have hcz41_2 : w35.cell? ⟨gb246, 2, none⟩ = some (.int .u64 x247002_3) := (blk_cell BK246.out 2).trans rfl
                          have hcz41_3 : w35.cell? ⟨gb246, 3, none⟩ = some (.int .u64 x247003_3) := (blk_cell BK246.out 3).trans rfl
                          have hfz41_0 := blk_frozen BK246.out 0
                          have hfz41_1 := blk_frozen BK246.out 1
                          have hfz41_2 := blk_frozen BK246.out 2
                          have hfz41_3 := blk_frozen BK246.out 3
                          have hcz42_0 : w35.cell? ⟨gb245, 0, none⟩ = some (.int .u64 x246000_3) := (blk_cell BK245.out 0).trans rfl
                          have hcz42_1 : w35.cell? ⟨gb245, 1, none⟩ = some (.int .u64 x246001_3) := (blk_cell BK245.out 1).trans rfl
                          have hcz42_2 : w35.cell? ⟨gb245, 2, none⟩ = some (.int .u64 x246002_3) := (blk_cell BK245.out 2).trans rfl
                          have hcz42_3 : w35.cell? ⟨gb245, 3, none⟩ = some (.int .u64 x246003_3) := (blk_cell BK245.out 3).trans rfl
                          have hfz42_0 := blk_frozen BK245.out 0
                          have hfz42_1 := blk_frozen BK245.out 1
                          have hfz42_2 := blk_frozen BK245.out 2
                          have hfz42_3 := blk_frozen BK245.out 3
                          try go_wp2_with (first | ((with_reducible refine gate_store (t := 33) (p := 2) rfl ?_); refine store_event (t := 33) (p := 2) (v := ?vo_w43) (w1 := ((((((((w35.setCell ⟨gb246, 0, none⟩ (.int .u64 t257)).setCell ⟨gb246, 1, none⟩ (.int .u64 t258)).setCell ⟨gb246, 2, none⟩ (.int .u64 t259)).setCell ⟨gb246, 3, none⟩ (.int .u64 t260)).setCell ⟨gb245, 0, none⟩ (.int .u64 t257)).setCell ⟨gb245, 1, none⟩ (.int .u64 t258)).setCell ⟨gb245, 2, none⟩ (.int .u64 t259)).setCell ⟨gb245, 3, none⟩ (.int .u64 t260))) ?hg ?ho ?hn ?hr ?_; (case ho => rfl); (case hg => rfl); (case hn => rfl); (case hr => first | (go_simp; done) | (go_simp; rfl)); intro w43 hw; have n0_ : Aside0 (w43.heap[gb245]? = some (.cells #[.int .u64 t257, .int .u64 t258, .int .u64 t259, .int .u64 t260] 33 (0, 0))) := ⟨(by rw [hw]; exact (by (with_reducible repeat (first | refine blk_drewN ?_ _ | refine blk_drew ?_ | refine blk_alloc ?_ _)); refine blk_put (cs := #[.int .u64 t257, .int .u64 t258, .int .u64 t259, .int .u64 x246003_3]) ?_ 3 _ rfl; (with_reducible repeat (first | refine blk_drewN ?_ _ | refine blk_drew ?_ | refine blk_alloc ?_ _)); refine blk_put (cs := #[.int .u64 t257, .int .u64 t258, .int .u64 x246002_3, .int .u64 x246003_3]) ?_ 2 _ rfl; (with_reducible repeat (first | refine blk_drewN ?_ _ | refine blk_drew ?_ | refine blk_alloc ?_ _)); refine blk_put (cs := #[.int .u64 t257, .int .u64 x246001_3, .int .u64 x246002_3, .int .u64 x246003_3]) ?_ 1 _ rfl; (with_reducible repeat (first | refine blk_drewN ?_ _ | refine blk_drew ?_ | refine blk_alloc ?_ _)); refine blk_put (cs := #[.int .u64 x246000_3, .int .u64 x246001_3, .int .u64 x246002_3, .int .u64 x246003_3]) ?_ 0 _ rfl; (with_reducible repeat (first | refine blk_drewN ?_ _ | refine blk_drew ?_ | refine blk_alloc ?_ _ | refine blk_far ?_ NB245_246.out _)); exact BK245.out))⟩; have n1_ : Aside0 (w43.heap[gb246]? = some (.cells #[.int .u64 t257, .int .u64 t258, .int .u64 t259, .int .u64 t260] 33 (0, 0))) := ⟨(by rw [hw]; exact (by (with_reducible repeat (first | refine blk_drewN ?_ _ | refine blk_drew ?_ | refine blk_alloc ?_ _ | refine blk_far ?_ NB246_245.out _)); exact put4h BK246.out))⟩; have n2_ : Aside0 (Below w.heap.size w w43) := ⟨(by rw [hw]; exact (belx2 HB GE245 GE246))⟩; clear hw; clear BK245; clear BK246; clear HB; have BK245 := n0_; have BK246 := n1_; have HB := n2_; clear n0_ n1_ n2_))
                          refine bodyPost_ret (results_ct rfl _ _ gb245 33 #[.int .u64 t257, .int .u64 t258, .int .u64 t259, .int .u64 t260] (0, 0) _ rfl (bkx BK245) Tryd.underlying33 rfl (by kernel_rfl)) rfl ?_
                          exact ⟨by first | rfl | (simp [errW_none, errW_some] <;> rfl) | (simp [*, errW_none, errW_some] <;> rfl), belx2 HB GE245 GE246⟩
end Go.Proofs.YtepnbnpgifpfbaaDoor.G
