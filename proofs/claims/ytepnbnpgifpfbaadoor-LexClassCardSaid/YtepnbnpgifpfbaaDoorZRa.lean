/- Lemmas and walks of this claim: GScantlingref01Row, GScantlingref01List, GScantlingref01Not, GScantlingref01Join. -/
import Derived.Test.YtepnbnpgifpfbaaDoorZKb
set_option linter.unusedVariables false
set_option linter.unusedSimpArgs false
namespace Go.Proofs.YtepnbnpgifpfbaaDoor.G
open Go.RowKit Go.Proofs.YtepnbnpgifpfbaaDoorW.PrintWords Go.Proofs.YtepnbnpgifpfbaaDoorW.PrintLast Go.Proofs.YtepnbnpgifpfbaaDoorW.PrintMore
attribute [local go_sem] max2_int min2_int max_two min_two max_three min_three max_four min_four
set_option linter.unusedVariables false
set_option linter.unusedSimpArgs false
def scantlingref01_Row.l0 : Nat → Int → List Bool → Int → Option (Int × Int × Int × Int)
  | 0, _, _, _ => none
  | k + 1, x1, x5, x6 => if x6 ≤ (wrap64 (x1)) then (if 0 ≤ x6 then (if x6 < (x5.length : Int) then (scantlingref01_Row.l0 k x1 (x5.set (x6 : Int).toNat true) (wrap64 (x6 + 1))) else (none)) else (none)) else ((scantlingref01_Of.f x5).bind fun bt200 => (some (bt200.1, bt200.2.1, bt200.2.2.1, bt200.2.2.2)))
def scantlingref01_Row.f (k : Nat) (a0 : Int) (a1 : Int) : Option (Int × Int × Int × Int) := if 256 ≤ 281474976710656 then (scantlingref01_Row.l0 k a1 (List.replicate 256 false) (wrap64 (a0))) else (none)
set_option maxHeartbeats 8000000 in
set_option maxRecDepth 100000 in
theorem scantlingref01_Row.calls (k : Nat) (a0 : Int) (a1 : Int) (r1 : Int) (r2 : Int) (r3 : Int) (r4 : Int) (w : World) (h : scantlingref01_Row.f k a0 a1 = some (r1, r2, r3, r4)) :
    Calls Tryd.prog 17 #[.int .u8 a0, .int .u8 a1] w fun e w' => e = .returned (.agg #[.int .u64 r1, .int .u64 r2, .int .u64 r3, .int .u64 r4]) ∧ Below w.heap.size w w' := by
  have hu33 := Tryd.underlying33
  have HB := Aside0.mk (Below.refl w.heap.size w)
  have H : (if 256 ≤ 281474976710656 then (scantlingref01_Row.l0 k a1 (List.replicate 256 false) (wrap64 (a0))) else (none)) = some (r1, r2, r3, r4) := h
  clear h
  by_cases c3 : 256 ≤ 281474976710656
  case neg => rw [if_neg c3] at H; exact absurd H (by simp);
  rw [if_pos c3] at H
  have c3b0 := eq_true c3
  have c3b1 : decide (256 ≤ 281474976710656) = true := decide_eq_true c3
  clear c3
  obtain ⟨y196, hy196⟩ : ∃ y_ : List Bool, y_ = (List.replicate 256 false) := ⟨_, rfl⟩
  replace H : (scantlingref01_Row.l0 k a1 y196 (wrap64 (a0))) = some (r1, r2, r3, r4) := by first | (rw [hy196]; with_reducible exact H) | (have H2_ := (Option.bind_some _ _).symm.trans H; rw [hy196]; with_reducible exact H2_) | (have H2_ := (Option.bind_some _ _).symm.trans H; with_reducible exact H2_) | with_reducible exact H | (rw [hy196]; exact H) | exact H
  have Ny196 := Aside0.mk hy196
  clear hy196
  have H' := Aside0.mk H
  clear H
  go_enter Tryd.func17, Tryd.ntmps17
  go_wp2_with (first | ((with_reducible refine gate_dst (N := 4) rfl ?_); refine box_event ?hg (N := 4) ?hd (cs := #[.int .u64 0, .int .u64 0, .int .u64 0, .int .u64 0]) (t := 33) ?hr ?_; (case hd => rfl); (case hg => rfl); (case hr => first | (go_simp; done) | (go_simp; rfl)); intro gb195 hg w4 hbox hb; have n0_ := Aside0.mk (below_step (belx HB) hb); have n1_ := Aside0.mk (hbox); have n2_ := Aside0.mk ((by rw [hg]; exact (below_size (belx HB)) : w.heap.size ≤ gb195)); have n3_ := Aside0.mk ((by rw [hg]; exact (below_size (belx HB)) : w.heap.size ≤ gb195)); clear HB; have HB := n0_; have BK195 := n1_; have GW195 := n2_; have GE195 := n3_; clear n0_ n1_ n2_ n3_; clear hb hbox hg) | ((with_reducible refine gate_dst (N := 7) rfl ?_); refine Kd.R_make Kd.bool _ 4 rfl (N := 7) rfl 53 _ _ rfl 256 rfl rfl Tryd.underlying53 (.bool false) 1 info4 rfl (by decide) (by omega) false (ok := fun _ => True) (okp := fun _ => True) rfl (fun _ hk => hk) trivial (by omega) (by omega) (Below.refl _ _) (Nat.le_refl _) ?_; intro v197 w5 ho6 hb hg_ hnew_; clear hg_ hnew_; (first | rw [← Ny196.out] at ho6 | (simp only [Int.reduceToNat] at ho6; rw [← Ny196.out] at ho6)); have n0_ := Aside0.mk (Kd.R_lower ho6 (below_size (belx1 HB GE195))); have n1_ := Aside0.mk (blk_below (g := gb195) (o := .cells #[.int .u64 0, .int .u64 0, .int .u64 0, .int .u64 0] 33 (0, 0)) (bkx BK195) hb); have n2_ := Aside0.mk (below_step (belx1 HB GE195) hb); clear BK195; clear HB; have HO198 := n0_; have BK195 := n1_; have HB := n2_; clear n0_ n1_ n2_; clear hb ho6))
  go_simp
  go_loopg [6] k (fun kq v6 w' => ∃ (x5_1 : List Bool) (x6_1 : Int), v6 = .int .i64 x6_1 ∧ Aside0 (scantlingref01_Row.l0 kq a1 x5_1 x6_1 = some (r1, r2, r3, r4)) ∧ Aside0 (kq ≤ k) ∧ Aside0 (Kd.R Kd.bool 4 w' w.heap.size (fun _ => True) v197 x5_1) ∧ Aside0 (w'.heap[gb195]? = some (.cells #[.int .u64 0, .int .u64 0, .int .u64 0, .int .u64 0] 33 (0, 0))) ∧ Aside0 (Below w.heap.size w w'))
  case atStart => exact ⟨(y196), (wrap64 (a0)), (by first | rfl | (simp; done) | (simp [*]; done) | exact congrArg (Value.int .i64) (by unfold wrap64; omega)), (by first | exact H' | (subst_vars; exact H')), ⟨Nat.le_refl _⟩, ⟨by (with_reducible repeat (first | apply Kd.R_alloc | apply Kd.R_drewN | apply Kd.R_drew)); exact HO198.out⟩, ⟨bkx BK195⟩, ⟨belx1 HB GE195⟩⟩
  case round =>
    clear H'
    try clear c3; try clear c3b0; try clear c3b1
    obtain ⟨x5_1, x6_1, rfl, HA, HK1, HO_5, BK195, HB⟩ := hrel
    cases gk with
    | zero => exact absurd HA.out (by simp [scantlingref01_Row.l0])
    | succ k1 =>
      have H := HA.out
      clear HA
      simp only [scantlingref01_Row.l0] at H
      by_cases c7 : x6_1 ≤ (wrap64 (a1))
      case pos =>
        rw [if_pos c7] at H
        have c7b0 : decide (x6_1 ≤ (wrap64 (a1))) = true := decide_eq_true c7
        clear c7
        by_cases c8 : 0 ≤ x6_1
        case neg => rw [if_neg c8] at H; exact absurd H (by simp)
        rw [if_pos c8] at H
        have c8b0 : decide (0 ≤ x6_1) = true := decide_eq_true c8
        clear c8
        by_cases c9 : x6_1 < (x5_1.length : Int)
        case neg => rw [if_neg c9] at H; exact absurd H (by simp)
        rw [if_pos c9] at H
        have c9b0 : decide (x6_1 < (x5_1.length : Int)) = true := decide_eq_true c9
        clear c9
        obtain ⟨y199, hy199⟩ : ∃ y_ : List Bool, y_ = (x5_1.set (x6_1 : Int).toNat true) := ⟨_, rfl⟩
        replace H : (scantlingref01_Row.l0 k1 a1 y199 (wrap64 (x6_1 + 1))) = some (r1, r2, r3, r4) := by first | (rw [hy199]; with_reducible exact H) | (have H2_ := (Option.bind_some _ _).symm.trans H; rw [hy199]; with_reducible exact H2_) | (have H2_ := (Option.bind_some _ _).symm.trans H; with_reducible exact H2_) | with_reducible exact H | (rw [hy199]; exact H) | exact H
        have Ny199 := Aside0.mk hy199
        clear hy199
        have H' := Aside0.mk H
        clear H
        have p10 : 0 ≤ (x6_1 : Int) := odt
        have q10 : (x6_1 : Int) < ((x5_1.length : Int) : Int) := odt
        obtain ⟨go10, co10, eo10, gb10, gl10, cl10, HG10⟩ := Kd.R_form HO_5.out (by omega)
        (first | cases eo10 | (injection eo10 with ea_ en_ ec_; (first | subst ea_ | (injection ea_ with ea_; subst ea_)); subst ec_; clear en_))
        have GB10 := Aside0.mk gb10
        have GG10 := Aside0.mk HG10
        clear gb10 gl10 HG10
        obtain ⟨hx10_0, hf10_0⟩ := Kd.R_celln false HO_5.out (x6_1 : Int) p10 q10
        replace p10 := eq_true p10
        replace q10 := eq_true q10
        have HP11 := Kd.R_putg HO_5.out (x6_1 : Int) true
        go_wp2_with (first | ((with_reducible refine gate_store (t := 4) (p := 18) rfl ?_); refine store_event (t := 4) (p := 18) (v := ?vo_w12) (w1 := (wr.setCell ⟨go10, (x6_1 : Int).toNat, none⟩ (.bool true))) ?hg ?ho ?hn ?hr ?_; (case ho => rfl); (case hg => rfl); (case hn => rfl); (case hr => first | (go_simp; done) | (go_simp; rfl)); intro w12 hw; have hg : wr.grownBy w12 (some go10) := (by rw [hw]; exact HP11.2); have hp_ : Kd.R Kd.bool 4 w12 w.heap.size (fun _ => True) (.slice (some ⟨go10, 0, none⟩) x5_1.length co10) y199 := (by rw [hw, Ny199.out]; exact HP11.1); clear HP11; have n0_ := Aside0.mk (hp_); have n1_ := Aside0.mk (blk_grown (g := gb195) (o := .cells #[.int .u64 0, .int .u64 0, .int .u64 0, .int .u64 0] 33 (0, 0)) (bkx BK195) hg (Kd.R_ne HO_5.out BK195.out (by decide))); have n2_ := Aside0.mk ((by rw [hw]; exact below_set (HB.out) GB10.out : Below w.heap.size w w12)); clear HO_5; clear BK195; clear HB; have HO_5 := n0_; have BK195 := n1_; have HB := n2_; clear n0_ n1_ n2_; clear hg hw hp_))
        go_roundg k1
        case measure => have := HK1.out; omega
        case rel => exact ⟨(y199), (wrap64 (x6_1 + 1)), (by first | rfl | (simp; done) | (simp [*]; done) | exact congrArg (Value.int .i64) (by unfold wrap64; omega)), (by first | exact H' | (subst_vars; exact H')), ⟨by have := HK1.out; omega⟩, ⟨by (with_reducible repeat (first | apply Kd.R_alloc | apply Kd.R_drewN | apply Kd.R_drew)); exact HO_5.out⟩, ⟨bkx BK195⟩, ⟨belx1 HB GE195⟩⟩
      rw [if_neg c7] at H
      have c7b0 : decide (x6_1 ≤ (wrap64 (a1))) = false := decide_eq_false c7
      clear c7
      replace H := Option.bind_eq_some_iff.mp H
      obtain ⟨⟨t200, t201, t202, t203⟩, A130, H⟩ := H
      replace H : (some (t200, t201, t202, t203)) = some (r1, r2, r3, r4) := H
      have A13 := Aside0.mk A130
      clear A130
      simp only [Option.some.injEq, Prod.mk.injEq] at H
      obtain ⟨rfl, rfl, rfl, rfl⟩ := H
      obtain ⟨Ao14, co14, eo14⟩ := Kd.R_slice HO_5.out
      subst eo14
      go_wp2_with (first | ((with_reducible refine gate_callee (f := 26) rfl ?_); refine goesL_ (some 20) rfl rfl Tryd.func26 (by kernel_rfl) rfl #[.slice Ao14 x5_1.length co14] rfl (by (try simp only [List.map_toArray, List.map_cons, List.map_nil]); first | done | rfl | (simp only [List.length_drop, List.length_take]; rfl)) ?_; (with_reducible refine (scantlingref01_Of.calls _ _ x5_1 t200 t201 t202 t203 _ ?side1 ?side2 A13.out).mono ?_); (case side1 => repeat (first | exact (Kd.R_reads' HO_5.out).2.2 | (with_reducible refine Kd.C_alloc ?_ _) | (with_reducible refine Kd.C_drewN ?_ _) | (with_reducible refine Kd.C_drew ?_))); (case side2 => exact (Kd.R_reads' HO_5.out).2.1); rintro e w15 ⟨rfl, hb⟩; refine ⟨_, rfl, ?_⟩; have n0_ := Aside0.mk (Kd.R_below (by (with_reducible repeat (first | apply Kd.R_alloc | apply Kd.R_drewN | apply Kd.R_drew)); exact HO_5.out) hb); have n1_ := Aside0.mk (blk_below (g := gb195) (o := .cells #[.int .u64 0, .int .u64 0, .int .u64 0, .int .u64 0] 33 (0, 0)) (bkx BK195) hb); have n2_ := Aside0.mk (below_step (belx1 HB GE195) hb); clear HO_5; clear BK195; clear HB; have HO_5 := n0_; have BK195 := n1_; have HB := n2_; clear n0_ n1_ n2_; (try clear hb); (try clear hb2); (try clear hk); (try clear hi); obtain ⟨hcz16_0, hcz16_1, hcz16_2, hcz16_3, hfz16_0, hfz16_1, hfz16_2, hfz16_3⟩ := cells4 BK195.out))
      refine bodyPost_ret (results_cell_row rfl _ _ gb195 33 #[.int .u64 t200, .int .u64 t201, .int .u64 t202, .int .u64 t203] (0, 0) _ rfl (by (with_reducible repeat (first | refine blk_drewN ?_ _ | refine blk_drew ?_ | refine blk_alloc ?_ _)); exact put4h BK195.out) Tryd.underlying33 rfl (by kernel_rfl)) rfl ?_
      exact ⟨by first | rfl | (simp [errW_none, errW_some] <;> rfl) | (simp [*, errW_none, errW_some] <;> rfl), belx1 HB GE195⟩
end Go.Proofs.YtepnbnpgifpfbaaDoor.G
namespace Go.Proofs.YtepnbnpgifpfbaaDoor.G
open Go.RowKit Go.Proofs.YtepnbnpgifpfbaaDoorW.PrintWords Go.Proofs.YtepnbnpgifpfbaaDoorW.PrintLast Go.Proofs.YtepnbnpgifpfbaaDoorW.PrintMore
attribute [local go_sem] max2_int min2_int max_two min_two max_three min_three max_four min_four
set_option linter.unusedVariables false
set_option linter.unusedSimpArgs false
def scantlingref01_List.l0 : Nat → List Bool → Int → Int → Int → Int → Int → Option (List Bool)
  | 0, _, _, _, _, _, _ => none
  | k + 1, x3, x4, x209000, x209001, x209002, x209003 => if x4 < 256 then ((scantlingref01_Has.f x209000 x209001 x209002 x209003 ((x4) % 256)).bind fun t209 => (if x3.length < 140737488355328 then (scantlingref01_List.l0 k (x3 ++ [t209]) (wrap64 (x4 + 1)) x209000 x209001 x209002 x209003) else (none))) else (some x3)
def scantlingref01_List.f (k : Nat) (a0_0 : Int) (a0_1 : Int) (a0_2 : Int) (a0_3 : Int) : Option (List Bool) := scantlingref01_List.l0 k ([] : List Bool) 0 a0_0 a0_1 a0_2 a0_3
set_option maxHeartbeats 8000000 in
set_option maxRecDepth 100000 in
theorem scantlingref01_List.calls (k : Nat) (a0_0 : Int) (a0_1 : Int) (a0_2 : Int) (a0_3 : Int) (r : List Bool) (w : World) (h : scantlingref01_List.f k a0_0 a0_1 a0_2 a0_3 = some r) :
    Calls Tryd.prog 27 #[.agg #[.int .u64 a0_0, .int .u64 a0_1, .int .u64 a0_2, .int .u64 a0_3]] w fun e w' => ∃ v0_ : Value, e = .returned (v0_) ∧ Kd.R Kd.bool 4 w' w.heap.size (fun _ => True) v0_ r ∧ Below w.heap.size w w' := by
  have hu33 := Tryd.underlying33
  have HB := Aside0.mk (Below.refl w.heap.size w)
  have H : (scantlingref01_List.l0 k ([] : List Bool) 0 a0_0 a0_1 a0_2 a0_3) = some r := h
  clear h
  have H' := Aside0.mk H
  clear H
  go_enter Tryd.func27, Tryd.ntmps27
  go_wp2_with (first | ((with_reducible refine gate_dst (N := 1) rfl ?_); refine box_event ?hg (N := 1) ?hd (cs := #[.int .u64 a0_0, .int .u64 a0_1, .int .u64 a0_2, .int .u64 a0_3]) (t := 33) ?hr ?_; (case hd => rfl); (case hg => rfl); (case hr => first | (go_simp; done) | (go_simp; rfl)); intro gb208 hg w2 hbox hb; have n0_ := Aside0.mk (below_step (belx HB) hb); have n1_ := Aside0.mk (hbox); have n2_ := Aside0.mk ((by rw [hg]; exact (below_size (belx HB)) : w.heap.size ≤ gb208)); have n3_ := Aside0.mk ((by rw [hg]; exact (below_size (belx HB)) : w.heap.size ≤ gb208)); clear HB; have HB := n0_; have BK208 := n1_; have GW208 := n2_; have GE208 := n3_; clear n0_ n1_ n2_ n3_; clear hb hbox hg))
  go_simp
  go_loopg [3, 4] k (fun kq v3 v4 w' => ∃ (x3_1 : List Bool) (x4_1 : Int), v4 = .int .i64 x4_1 ∧ Aside0 (scantlingref01_List.l0 kq x3_1 x4_1 a0_0 a0_1 a0_2 a0_3 = some r) ∧ Aside0 (kq ≤ k) ∧ Aside0 (Kd.R Kd.bool 4 w' w.heap.size (fun _ => True) v3 x3_1) ∧ Aside0 (w'.heap[gb208]? = some (.cells #[.int .u64 a0_0, .int .u64 a0_1, .int .u64 a0_2, .int .u64 a0_3] 33 (0, 0))) ∧ Aside0 (Below w.heap.size w w'))
  case atStart => exact ⟨(([] : List Bool)), (0), (by first | rfl | (simp; done) | (simp [*]; done) | exact congrArg (Value.int .i64) (by unfold wrap64; omega)), (by first | exact H' | (subst_vars; exact H')), ⟨Nat.le_refl _⟩, ⟨by first | exact Kd.R_nil _ _ _ _ _ | exact Kd.N_nil _ _ _ _ _ | exact Kd.V_nil _ _ _ _ _ | exact Kd.Q_nil _ _ _ _ _ | exact Kd.S_nil _ _ _ _ _⟩, ⟨bkx BK208⟩, ⟨belx1 HB GE208⟩⟩
  case round =>
    clear H'
    obtain ⟨x3_1, x4_1, rfl, HA, HK1, HO_3, BK208, HB⟩ := hrel
    cases gk with
    | zero => exact absurd HA.out (by simp [scantlingref01_List.l0])
    | succ k1 =>
      have H := HA.out
      clear HA
      simp only [scantlingref01_List.l0] at H
      by_cases c3 : x4_1 < 256
      case neg =>
        rw [if_neg c3] at H
        have c3b0 : decide (x4_1 < 256) = false := decide_eq_false c3
        clear c3
        obtain rfl := Option.some.inj H
        go_wp2
        go_ret
        exact ⟨_, by first | rfl | (simp [errW_none, errW_some] <;> rfl) | (simp [*, errW_none, errW_some] <;> rfl), by (with_reducible repeat (first | apply Kd.R_alloc | apply Kd.R_drewN | apply Kd.R_drew)); exact HO_3.out, belx1 HB GE208⟩
      rw [if_pos c3] at H
      have c3b0 : decide (x4_1 < 256) = true := decide_eq_true c3
      clear c3
      replace H := Option.bind_eq_some_iff.mp H
      obtain ⟨t209, A40, H⟩ := H
      replace H : (if x3_1.length < 140737488355328 then (scantlingref01_List.l0 k1 (x3_1 ++ [t209]) (wrap64 (x4_1 + 1)) a0_0 a0_1 a0_2 a0_3) else (none)) = some r := H
      have A4 := Aside0.mk A40
      clear A40
      by_cases c5 : x3_1.length < 140737488355328
      case neg => rw [if_neg c5] at H; exact absurd H (by simp)
      rw [if_pos c5] at H
      have LMc5 := Aside0.mk c5
      clear c5
      obtain ⟨y210, hy210⟩ : ∃ y_ : List Bool, y_ = (x3_1 ++ [t209]) := ⟨_, rfl⟩
      replace H : (scantlingref01_List.l0 k1 y210 (wrap64 (x4_1 + 1)) a0_0 a0_1 a0_2 a0_3) = some r := by first | (rw [hy210]; with_reducible exact H) | (have H2_ := (Option.bind_some _ _).symm.trans H; rw [hy210]; with_reducible exact H2_) | (have H2_ := (Option.bind_some _ _).symm.trans H; with_reducible exact H2_) | with_reducible exact H | (rw [hy210]; exact H) | exact H
      have Ny210 := Aside0.mk hy210
      clear hy210
      have H' := Aside0.mk H
      clear H
      have hcz6_0 : wr.cell? ⟨gb208, 0, none⟩ = some (.int .u64 a0_0) := (blk_cell BK208.out 0).trans rfl
      have hcz6_1 : wr.cell? ⟨gb208, 1, none⟩ = some (.int .u64 a0_1) := (blk_cell BK208.out 1).trans rfl
      have hcz6_2 : wr.cell? ⟨gb208, 2, none⟩ = some (.int .u64 a0_2) := (blk_cell BK208.out 2).trans rfl
      have hcz6_3 : wr.cell? ⟨gb208, 3, none⟩ = some (.int .u64 a0_3) := (blk_cell BK208.out 3).trans rfl
      have hfz6_0 := blk_frozen BK208.out 0
      have hfz6_1 := blk_frozen BK208.out 1
      have hfz6_2 := blk_frozen BK208.out 2
      have hfz6_3 := blk_frozen BK208.out 3
      go_wp2_with (first | ((with_reducible refine gate_callee (f := 20) rfl ?_); refine goesL_ (some 13) rfl rfl Tryd.func20 (by kernel_rfl) rfl #[.agg #[.int .u64 a0_0, .int .u64 a0_1, .int .u64 a0_2, .int .u64 a0_3], .int .u8 ((x4_1) % 256)] rfl (by (try simp only [List.map_toArray, List.map_cons, List.map_nil]); first | done | rfl | (simp only [List.length_drop, List.length_take]; rfl)) ?_; (with_reducible refine (scantlingref01_Has.calls a0_0 a0_1 a0_2 a0_3 ((x4_1) % 256) t209 _ A4.out).mono ?_); rintro e w7 ⟨rfl, hb⟩; refine ⟨_, rfl, ?_⟩; have n0_ := Aside0.mk (Kd.R_below (by (with_reducible repeat (first | apply Kd.R_alloc | apply Kd.R_drewN | apply Kd.R_drew)); exact HO_3.out) hb); have n1_ := Aside0.mk (blk_below (g := gb208) (o := .cells #[.int .u64 a0_0, .int .u64 a0_1, .int .u64 a0_2, .int .u64 a0_3] 33 (0, 0)) (bkx BK208) hb); have n2_ := Aside0.mk (below_step (belx1 HB GE208) hb); clear HO_3; clear BK208; clear HB; have HO_3 := n0_; have BK208 := n1_; have HB := n2_; clear n0_ n1_ n2_; (try clear hb); (try clear hb2); (try clear hk); (try clear hi)) | ((with_reducible refine gate_builtin (b := .append) (xs := #[.tmp 9, .tmp 14]) rfl ?_); at_builtin; refine Kd.R_append Kd.bool (w0 := w) w.heap.size rfl (.tmp 9) (.tmp 14) 53 4 (.bool false) 1 rfl Tryd.underlying53 info4 rfl (by decide) (by omega) u3 x3_1 t209 [.bool t209] (fun _ => True) (fun _ => False) rfl rfl ?aP (fun _ hk => hk.elim) ?aF ?aO ?aB ?aS ?aL ?_; (case aP => exact rfl); (case aB => exact (belx1 HB GE208)); (case aF => exact (fun _ _ => trivial)); (case aO => exact (by (with_reducible repeat (first | apply Kd.R_alloc | apply Kd.R_drewN | apply Kd.R_drew)); exact HO_3.out)); (case aS => exact (below_size (belx1 HB GE208))); (case aL => have := LMc5.out; omega); intro v211 w8 ho hb hg hat; rw [← Ny210.out] at ho; have n0_ := Aside0.mk (blk_grown (g := gb208) (o := .cells #[.int .u64 a0_0, .int .u64 a0_1, .int .u64 a0_2, .int .u64 a0_3] 33 (0, 0)) (bkx BK208) hg (Kd.R_ne HO_3.out BK208.out (by decide))); have n1_ := Aside0.mk (hb); have n2_ := Aside0.mk (ho); clear BK208; clear HB; clear HO_3; have BK208 := n0_; have HB := n1_; have HO212 := n2_; clear n0_ n1_ n2_; clear ho hb hg hat))
      go_roundg k1
      case measure => have := HK1.out; omega
      case rel => exact ⟨(y210), (wrap64 (x4_1 + 1)), (by first | rfl | (simp; done) | (simp [*]; done) | exact congrArg (Value.int .i64) (by unfold wrap64; omega)), (by first | exact H' | (subst_vars; exact H')), ⟨by have := HK1.out; omega⟩, ⟨by (with_reducible repeat (first | apply Kd.R_alloc | apply Kd.R_drewN | apply Kd.R_drew)); exact HO212.out⟩, ⟨bkx BK208⟩, ⟨belx1 HB GE208⟩⟩
end Go.Proofs.YtepnbnpgifpfbaaDoor.G
namespace Go.Proofs.YtepnbnpgifpfbaaDoor.G
open Go.RowKit Go.Proofs.YtepnbnpgifpfbaaDoorW.PrintWords Go.Proofs.YtepnbnpgifpfbaaDoorW.PrintLast Go.Proofs.YtepnbnpgifpfbaaDoorW.PrintMore
attribute [local go_sem] max2_int min2_int max_two min_two max_three min_three max_four min_four
set_option linter.unusedVariables false
set_option linter.unusedSimpArgs false
def scantlingref01_Not.l0 : Nat → List Bool → Int → Option (Int × Int × Int × Int)
  | 0, _, _ => none
  | k + 1, x3, x4 => if x4 < 256 then (if 0 ≤ x4 then (if x4 < (x3.length : Int) then (scantlingref01_Not.l0 k (x3.set (x4 : Int).toNat (!(rdOf false x3 x4))) (wrap64 (x4 + 1))) else (none)) else (none)) else ((scantlingref01_Of.f x3).bind fun bt220 => (some (bt220.1, bt220.2.1, bt220.2.2.1, bt220.2.2.2)))
def scantlingref01_Not.f (k : Nat) (a0_0 : Int) (a0_1 : Int) (a0_2 : Int) (a0_3 : Int) : Option (Int × Int × Int × Int) := (scantlingref01_List.f k a0_0 a0_1 a0_2 a0_3).bind fun t215 => (scantlingref01_Not.l0 k t215 0)
set_option maxHeartbeats 8000000 in
set_option maxRecDepth 100000 in
theorem scantlingref01_Not.calls (k : Nat) (a0_0 : Int) (a0_1 : Int) (a0_2 : Int) (a0_3 : Int) (r1 : Int) (r2 : Int) (r3 : Int) (r4 : Int) (w : World) (h : scantlingref01_Not.f k a0_0 a0_1 a0_2 a0_3 = some (r1, r2, r3, r4)) :
    Calls Tryd.prog 18 #[.agg #[.int .u64 a0_0, .int .u64 a0_1, .int .u64 a0_2, .int .u64 a0_3]] w fun e w' => e = .returned (.agg #[.int .u64 r1, .int .u64 r2, .int .u64 r3, .int .u64 r4]) ∧ Below w.heap.size w w' := by
  have hu33 := Tryd.underlying33
  have HB := Aside0.mk (Below.refl w.heap.size w)
  have H : ((scantlingref01_List.f k a0_0 a0_1 a0_2 a0_3).bind fun t215 => (scantlingref01_Not.l0 k t215 0)) = some (r1, r2, r3, r4) := h
  clear h
  replace H := Option.bind_eq_some_iff.mp H
  obtain ⟨t215, A20, H⟩ := H
  replace H : (scantlingref01_Not.l0 k t215 0) = some (r1, r2, r3, r4) := H
  have A2 := Aside0.mk A20
  clear A20
  have H' := Aside0.mk H
  clear H
  go_enter Tryd.func18, Tryd.ntmps18
  go_wp2_with (first | ((with_reducible refine gate_dst (N := 1) rfl ?_); refine box_event ?hg (N := 1) ?hd (cs := #[.int .u64 a0_0, .int .u64 a0_1, .int .u64 a0_2, .int .u64 a0_3]) (t := 33) ?hr ?_; (case hd => rfl); (case hg => rfl); (case hr => first | (go_simp; done) | (go_simp; rfl)); intro gb213 hg w3 hbox hb; have n0_ := Aside0.mk (below_step (belx HB) hb); have n1_ := Aside0.mk (hbox); have n2_ := Aside0.mk ((by rw [hg]; exact (below_size (belx HB)) : w.heap.size ≤ gb213)); have n3_ := Aside0.mk ((by rw [hg]; exact (below_size (belx HB)) : w.heap.size ≤ gb213)); clear HB; have HB := n0_; have BK213 := n1_; have GW213 := n2_; have GE213 := n3_; clear n0_ n1_ n2_ n3_; clear hb hbox hg) | ((with_reducible refine gate_dst (N := 2) rfl ?_); refine box_event ?hg (N := 2) ?hd (cs := #[.int .u64 0, .int .u64 0, .int .u64 0, .int .u64 0]) (t := 33) ?hr ?_; (case hd => rfl); (case hg => rfl); (case hr => first | (go_simp; done) | (go_simp; rfl)); intro gb214 hg w4 hbox hb; have n0_ := Aside0.mk (blk_below (g := gb213) (o := .cells #[.int .u64 a0_0, .int .u64 a0_1, .int .u64 a0_2, .int .u64 a0_3] 33 (0, 0)) (bkx BK213) hb); have n1_ := Aside0.mk (below_step (belx1 HB GE213) hb); have n2_ := Aside0.mk (hbox); have n3_ := Aside0.mk ((by rw [hg]; exact (below_size (belx1 HB GE213)) : w.heap.size ≤ gb214)); have n4_ := Aside0.mk ((by rw [hg]; exact (below_size (belx1 HB GE213)) : w.heap.size ≤ gb214)); have n5_ := Aside0.mk ((by rw [hg]; exact Nat.ne_of_lt (blk_lt (g := gb213) (o := .cells #[.int .u64 a0_0, .int .u64 a0_1, .int .u64 a0_2, .int .u64 a0_3] 33 (0, 0)) (bkx BK213)) : gb213 ≠ gb214)); have n6_ := Aside0.mk ((by rw [hg]; exact Nat.ne_of_gt (blk_lt (g := gb213) (o := .cells #[.int .u64 a0_0, .int .u64 a0_1, .int .u64 a0_2, .int .u64 a0_3] 33 (0, 0)) (bkx BK213)) : gb214 ≠ gb213)); clear BK213; clear HB; have BK213 := n0_; have HB := n1_; have BK214 := n2_; have GW214 := n3_; have GE214 := n4_; have NB213_214 := n5_; have NB214_213 := n6_; clear n0_ n1_ n2_ n3_ n4_ n5_ n6_; clear hb hbox hg; have hnb5 := NB213_214.out; have hnc5 := NB214_213.out; obtain ⟨hcz6_0, hcz6_1, hcz6_2, hcz6_3, hfz6_0, hfz6_1, hfz6_2, hfz6_3⟩ := cells4 BK213.out) | ((with_reducible refine gate_callee (f := 27) rfl ?_); refine goesL_ (some 6) rfl rfl Tryd.func27 (by kernel_rfl) rfl #[.agg #[.int .u64 a0_0, .int .u64 a0_1, .int .u64 a0_2, .int .u64 a0_3]] rfl (by (try simp only [List.map_toArray, List.map_cons, List.map_nil]); first | done | rfl | (simp only [List.length_drop, List.length_take]; rfl)) ?_; (with_reducible refine (scantlingref01_List.calls k a0_0 a0_1 a0_2 a0_3 t215 _ A2.out).mono ?_); rintro e w7 ⟨v216, rfl, ho0, hb⟩; refine ⟨_, rfl, ?_⟩; have n0_ := Aside0.mk (Kd.R_lower ho0 (below_size (belx2 HB GE213 GE214))); have n1_ := Aside0.mk (blk_below (g := gb213) (o := .cells #[.int .u64 a0_0, .int .u64 a0_1, .int .u64 a0_2, .int .u64 a0_3] 33 (0, 0)) (bkx BK213) hb); have n2_ := Aside0.mk (blk_below (g := gb214) (o := .cells #[.int .u64 0, .int .u64 0, .int .u64 0, .int .u64 0] 33 (0, 0)) (bkx BK214) hb); have n3_ := Aside0.mk (below_step (belx2 HB GE213 GE214) hb); clear BK213; clear BK214; clear HB; have HO217 := n0_; have BK213 := n1_; have BK214 := n2_; have HB := n3_; clear n0_ n1_ n2_ n3_; (try clear hb); (try clear hb2); (try clear hk); (try clear hi); (try clear ho0)))
  go_simp
  go_loopg [4] k (fun kq v4 w' => ∃ (x3_1 : List Bool) (x4_1 : Int), v4 = .int .i64 x4_1 ∧ Aside0 (scantlingref01_Not.l0 kq x3_1 x4_1 = some (r1, r2, r3, r4)) ∧ Aside0 (kq ≤ k) ∧ Aside0 (Kd.R Kd.bool 4 w' w.heap.size (fun _ => True) v216 x3_1) ∧ Aside0 (w'.heap[gb213]? = some (.cells #[.int .u64 a0_0, .int .u64 a0_1, .int .u64 a0_2, .int .u64 a0_3] 33 (0, 0))) ∧ Aside0 (w'.heap[gb214]? = some (.cells #[.int .u64 0, .int .u64 0, .int .u64 0, .int .u64 0] 33 (0, 0))) ∧ Aside0 (Below w.heap.size w w'))
  case atStart => exact ⟨(t215), (0), (by first | rfl | (simp; done) | (simp [*]; done) | exact congrArg (Value.int .i64) (by unfold wrap64; omega)), (by first | exact H' | (subst_vars; exact H')), ⟨Nat.le_refl _⟩, ⟨by (with_reducible repeat (first | apply Kd.R_alloc | apply Kd.R_drewN | apply Kd.R_drew)); exact HO217.out⟩, ⟨bkx BK213⟩, ⟨bkx BK214⟩, ⟨belx2 HB GE213 GE214⟩⟩
  case round =>
    clear H'
    try clear hcz6_0; try clear hcz6_1; try clear hcz6_2; try clear hcz6_3; try clear hfz6_0; try clear hfz6_1; try clear hfz6_2; try clear hfz6_3
    obtain ⟨x3_1, x4_1, rfl, HA, HK1, HO_3, BK213, BK214, HB⟩ := hrel
    cases gk with
    | zero => exact absurd HA.out (by simp [scantlingref01_Not.l0])
    | succ k1 =>
      have H := HA.out
      clear HA
      simp only [scantlingref01_Not.l0] at H
      by_cases c8 : x4_1 < 256
      case neg =>
        rw [if_neg c8] at H
        have c8b0 : decide (x4_1 < 256) = false := decide_eq_false c8
        clear c8
        replace H := Option.bind_eq_some_iff.mp H
        obtain ⟨⟨t220, t221, t222, t223⟩, A150, H⟩ := H
        replace H : (some (t220, t221, t222, t223)) = some (r1, r2, r3, r4) := H
        have A15 := Aside0.mk A150
        clear A150
        simp only [Option.some.injEq, Prod.mk.injEq] at H
        obtain ⟨rfl, rfl, rfl, rfl⟩ := H
        obtain ⟨Ao16, co16, eo16⟩ := Kd.R_slice HO_3.out
        subst eo16
        go_wp2_with (first | ((with_reducible refine gate_callee (f := 26) rfl ?_); refine goesL_ (some 20) rfl rfl Tryd.func26 (by kernel_rfl) rfl #[.slice Ao16 x3_1.length co16] rfl (by (try simp only [List.map_toArray, List.map_cons, List.map_nil]); first | done | rfl | (simp only [List.length_drop, List.length_take]; rfl)) ?_; (with_reducible refine (scantlingref01_Of.calls _ _ x3_1 t220 t221 t222 t223 _ ?side1 ?side2 A15.out).mono ?_); (case side1 => repeat (first | exact (Kd.R_reads' HO_3.out).2.2 | (with_reducible refine Kd.C_alloc ?_ _) | (with_reducible refine Kd.C_drewN ?_ _) | (with_reducible refine Kd.C_drew ?_))); (case side2 => exact (Kd.R_reads' HO_3.out).2.1); rintro e w17 ⟨rfl, hb⟩; refine ⟨_, rfl, ?_⟩; have n0_ := Aside0.mk (Kd.R_below (by (with_reducible repeat (first | apply Kd.R_alloc | apply Kd.R_drewN | apply Kd.R_drew)); exact HO_3.out) hb); have n1_ := Aside0.mk (blk_below (g := gb213) (o := .cells #[.int .u64 a0_0, .int .u64 a0_1, .int .u64 a0_2, .int .u64 a0_3] 33 (0, 0)) (bkx BK213) hb); have n2_ := Aside0.mk (blk_below (g := gb214) (o := .cells #[.int .u64 0, .int .u64 0, .int .u64 0, .int .u64 0] 33 (0, 0)) (bkx BK214) hb); have n3_ := Aside0.mk (below_step (belx2 HB GE213 GE214) hb); clear HO_3; clear BK213; clear BK214; clear HB; have HO_3 := n0_; have BK213 := n1_; have BK214 := n2_; have HB := n3_; clear n0_ n1_ n2_ n3_; (try clear hb); (try clear hb2); (try clear hk); (try clear hi); have hnb18 := NB214_213.out; have hnc18 := NB213_214.out; obtain ⟨hcz19_0, hcz19_1, hcz19_2, hcz19_3, hfz19_0, hfz19_1, hfz19_2, hfz19_3⟩ := cells4 BK214.out))
        refine bodyPost_ret (results_cell_row rfl _ _ gb214 33 #[.int .u64 t220, .int .u64 t221, .int .u64 t222, .int .u64 t223] (0, 0) _ rfl (by (with_reducible repeat (first | refine blk_drewN ?_ _ | refine blk_drew ?_ | refine blk_alloc ?_ _)); exact put4h BK214.out) Tryd.underlying33 rfl (by kernel_rfl)) rfl ?_
        exact ⟨by first | rfl | (simp [errW_none, errW_some] <;> rfl) | (simp [*, errW_none, errW_some] <;> rfl), belx2 HB GE213 GE214⟩
      rw [if_pos c8] at H
      have c8b0 : decide (x4_1 < 256) = true := decide_eq_true c8
      clear c8
      by_cases c9 : 0 ≤ x4_1
      case neg => rw [if_neg c9] at H; exact absurd H (by simp)
      rw [if_pos c9] at H
      have c9b0 : decide (0 ≤ x4_1) = true := decide_eq_true c9
      clear c9
      by_cases c10 : x4_1 < (x3_1.length : Int)
      case neg => rw [if_neg c10] at H; exact absurd H (by simp)
      rw [if_pos c10] at H
      have c10b0 : decide (x4_1 < (x3_1.length : Int)) = true := decide_eq_true c10
      clear c10
      obtain ⟨y219, hy219⟩ : ∃ y_ : List Bool, y_ = (x3_1.set (x4_1 : Int).toNat (!(rdOf false x3_1 x4_1))) := ⟨_, rfl⟩
      replace H : (scantlingref01_Not.l0 k1 y219 (wrap64 (x4_1 + 1))) = some (r1, r2, r3, r4) := by first | (rw [hy219]; with_reducible exact H) | (have H2_ := (Option.bind_some _ _).symm.trans H; rw [hy219]; with_reducible exact H2_) | (have H2_ := (Option.bind_some _ _).symm.trans H; with_reducible exact H2_) | with_reducible exact H | (rw [hy219]; exact H) | exact H
      have Ny219 := Aside0.mk hy219
      clear hy219
      have H' := Aside0.mk H
      clear H
      obtain ⟨Ao12, co12, eo12⟩ := Kd.R_slice HO_3.out
      subst eo12
      have p218 : 0 ≤ (x4_1 : Int) := odt
      have q218 : x4_1 < (x3_1.length : Int) := odt
      obtain ⟨ad218, e218, hx218_0⟩ := Kd.at_bool (Kd.R_reads' HO_3.out).2.2 x4_1 p218 q218
      cases e218
      replace p218 := eq_true p218
      replace q218 := eq_true q218
      have p11 : 0 ≤ (x4_1 : Int) := odt
      have q11 : (x4_1 : Int) < ((x3_1.length : Int) : Int) := odt
      obtain ⟨go11, co11, eo11, gb11, gl11, cl11, HG11⟩ := Kd.R_form HO_3.out (by omega)
      (first | cases eo11 | (injection eo11 with ea_ en_ ec_; (first | subst ea_ | (injection ea_ with ea_; subst ea_)); subst ec_; clear en_))
      have GB11 := Aside0.mk gb11
      have GG11 := Aside0.mk HG11
      clear gb11 gl11 HG11
      (first | simp only [add_plain] at hx218_0 | skip)
      obtain ⟨hx11_0, hf11_0⟩ := Kd.R_celln false HO_3.out (x4_1 : Int) p11 q11
      replace p11 := eq_true p11
      replace q11 := eq_true q11
      have HP13 := Kd.R_putg HO_3.out (x4_1 : Int) (!(rdOf false x3_1 x4_1))
      go_wp2_with (first | ((with_reducible refine gate_store (t := 4) (p := 18) rfl ?_); refine store_event (t := 4) (p := 18) (v := ?vo_w14) (w1 := (wr.setCell ⟨go11, (x4_1 : Int).toNat, none⟩ (.bool (!(rdOf false x3_1 x4_1))))) ?hg ?ho ?hn ?hr ?_; (case ho => rfl); (case hg => rfl); (case hn => rfl); (case hr => first | (go_simp; done) | (go_simp; rfl)); intro w14 hw; have hg : wr.grownBy w14 (some go11) := (by rw [hw]; exact HP13.2); have hp_ : Kd.R Kd.bool 4 w14 w.heap.size (fun _ => True) (.slice (some ⟨go11, 0, none⟩) x3_1.length co12) y219 := (by rw [hw, Ny219.out]; exact HP13.1); clear HP13; have n0_ := Aside0.mk (hp_); have n1_ := Aside0.mk (blk_grown (g := gb213) (o := .cells #[.int .u64 a0_0, .int .u64 a0_1, .int .u64 a0_2, .int .u64 a0_3] 33 (0, 0)) (bkx BK213) hg (Kd.R_ne HO_3.out BK213.out (by decide))); have n2_ := Aside0.mk (blk_grown (g := gb214) (o := .cells #[.int .u64 0, .int .u64 0, .int .u64 0, .int .u64 0] 33 (0, 0)) (bkx BK214) hg (Kd.R_ne HO_3.out BK214.out (by decide))); have n3_ := Aside0.mk ((by rw [hw]; exact below_set (HB.out) GB11.out : Below w.heap.size w w14)); clear HO_3; clear BK213; clear BK214; clear HB; have HO_3 := n0_; have BK213 := n1_; have BK214 := n2_; have HB := n3_; clear n0_ n1_ n2_ n3_; clear hg hw hp_))
      go_roundg k1
      case measure => have := HK1.out; omega
      case rel => exact ⟨(y219), (wrap64 (x4_1 + 1)), (by first | rfl | (simp; done) | (simp [*]; done) | exact congrArg (Value.int .i64) (by unfold wrap64; omega)), (by first | exact H' | (subst_vars; exact H')), ⟨by have := HK1.out; omega⟩, ⟨by (with_reducible repeat (first | apply Kd.R_alloc | apply Kd.R_drewN | apply Kd.R_drew)); exact HO_3.out⟩, ⟨bkx BK213⟩, ⟨bkx BK214⟩, ⟨belx2 HB GE213 GE214⟩⟩
end Go.Proofs.YtepnbnpgifpfbaaDoor.G
namespace Go.Proofs.YtepnbnpgifpfbaaDoor.G
open Go.RowKit Go.Proofs.YtepnbnpgifpfbaaDoorW.PrintWords Go.Proofs.YtepnbnpgifpfbaaDoorW.PrintLast Go.Proofs.YtepnbnpgifpfbaaDoorW.PrintMore
attribute [local go_sem] max2_int min2_int max_two min_two max_three min_three max_four min_four
set_option linter.unusedVariables false
set_option linter.unusedSimpArgs false
def scantlingref01_Join.l0 : Nat → List Bool → List Bool → Int → Option (Int × Int × Int × Int)
  | 0, _, _, _ => none
  | k + 1, x5, x6, x7 => if x7 < 256 then (if 0 ≤ x7 then (if x7 < (x5.length : Int) then (if rdOf false x5 x7 = true then (scantlingref01_Join.l0 k (x5.set (x7 : Int).toNat true) x6 (wrap64 (x7 + 1))) else (if x7 < (x6.length : Int) then (scantlingref01_Join.l0 k (x5.set (x7 : Int).toNat (rdOf false x6 x7)) x6 (wrap64 (x7 + 1))) else (none))) else (none)) else (none)) else ((scantlingref01_Of.f x5).bind fun bt237 => (some (bt237.1, bt237.2.1, bt237.2.2.1, bt237.2.2.2)))
def scantlingref01_Join.f (k : Nat) (a0_0 : Int) (a0_1 : Int) (a0_2 : Int) (a0_3 : Int) (a1_0 : Int) (a1_1 : Int) (a1_2 : Int) (a1_3 : Int) : Option (Int × Int × Int × Int) := (scantlingref01_List.f k a0_0 a0_1 a0_2 a0_3).bind fun t227 => ((scantlingref01_List.f k a1_0 a1_1 a1_2 a1_3).bind fun t230 => (scantlingref01_Join.l0 k t227 t230 0))
set_option maxHeartbeats 8000000 in
set_option maxRecDepth 100000 in
theorem scantlingref01_Join.calls (k : Nat) (a0_0 : Int) (a0_1 : Int) (a0_2 : Int) (a0_3 : Int) (a1_0 : Int) (a1_1 : Int) (a1_2 : Int) (a1_3 : Int) (r1 : Int) (r2 : Int) (r3 : Int) (r4 : Int) (w : World) (h : scantlingref01_Join.f k a0_0 a0_1 a0_2 a0_3 a1_0 a1_1 a1_2 a1_3 = some (r1, r2, r3, r4)) :
    Calls Tryd.prog 19 #[.agg #[.int .u64 a0_0, .int .u64 a0_1, .int .u64 a0_2, .int .u64 a0_3], .agg #[.int .u64 a1_0, .int .u64 a1_1, .int .u64 a1_2, .int .u64 a1_3]] w fun e w' => e = .returned (.agg #[.int .u64 r1, .int .u64 r2, .int .u64 r3, .int .u64 r4]) ∧ Below w.heap.size w w' := by
  have hu33 := Tryd.underlying33
  have HB := Aside0.mk (Below.refl w.heap.size w)
  have H : ((scantlingref01_List.f k a0_0 a0_1 a0_2 a0_3).bind fun t227 => ((scantlingref01_List.f k a1_0 a1_1 a1_2 a1_3).bind fun t230 => (scantlingref01_Join.l0 k t227 t230 0))) = some (r1, r2, r3, r4) := h
  clear h
  replace H := Option.bind_eq_some_iff.mp H
  obtain ⟨t227, A30, H⟩ := H
  replace H : ((scantlingref01_List.f k a1_0 a1_1 a1_2 a1_3).bind fun t230 => (scantlingref01_Join.l0 k t227 t230 0)) = some (r1, r2, r3, r4) := H
  have A3 := Aside0.mk A30
  clear A30
  replace H := Option.bind_eq_some_iff.mp H
  obtain ⟨t230, A40, H⟩ := H
  replace H : (scantlingref01_Join.l0 k t227 t230 0) = some (r1, r2, r3, r4) := H
  have A4 := Aside0.mk A40
  clear A40
  have H' := Aside0.mk H
  clear H
  go_enter Tryd.func19, Tryd.ntmps19
  go_wp2_with (first | ((with_reducible refine gate_dst (N := 2) rfl ?_); refine box_event ?hg (N := 2) ?hd (cs := #[.int .u64 a0_0, .int .u64 a0_1, .int .u64 a0_2, .int .u64 a0_3]) (t := 33) ?hr ?_; (case hd => rfl); (case hg => rfl); (case hr => first | (go_simp; done) | (go_simp; rfl)); intro gb224 hg w5 hbox hb; have n0_ := Aside0.mk (below_step (belx HB) hb); have n1_ := Aside0.mk (hbox); have n2_ := Aside0.mk ((by rw [hg]; exact (below_size (belx HB)) : w.heap.size ≤ gb224)); have n3_ := Aside0.mk ((by rw [hg]; exact (below_size (belx HB)) : w.heap.size ≤ gb224)); clear HB; have HB := n0_; have BK224 := n1_; have GW224 := n2_; have GE224 := n3_; clear n0_ n1_ n2_ n3_; clear hb hbox hg) | ((with_reducible refine gate_dst (N := 3) rfl ?_); refine box_event ?hg (N := 3) ?hd (cs := #[.int .u64 a1_0, .int .u64 a1_1, .int .u64 a1_2, .int .u64 a1_3]) (t := 33) ?hr ?_; (case hd => rfl); (case hg => rfl); (case hr => first | (go_simp; done) | (go_simp; rfl)); intro gb225 hg w6 hbox hb; have n0_ := Aside0.mk (blk_below (g := gb224) (o := .cells #[.int .u64 a0_0, .int .u64 a0_1, .int .u64 a0_2, .int .u64 a0_3] 33 (0, 0)) (bkx BK224) hb); have n1_ := Aside0.mk (below_step (belx1 HB GE224) hb); have n2_ := Aside0.mk (hbox); have n3_ := Aside0.mk ((by rw [hg]; exact (below_size (belx1 HB GE224)) : w.heap.size ≤ gb225)); have n4_ := Aside0.mk ((by rw [hg]; exact (below_size (belx1 HB GE224)) : w.heap.size ≤ gb225)); have n5_ := Aside0.mk ((by rw [hg]; exact Nat.ne_of_lt (blk_lt (g := gb224) (o := .cells #[.int .u64 a0_0, .int .u64 a0_1, .int .u64 a0_2, .int .u64 a0_3] 33 (0, 0)) (bkx BK224)) : gb224 ≠ gb225)); have n6_ := Aside0.mk ((by rw [hg]; exact Nat.ne_of_gt (blk_lt (g := gb224) (o := .cells #[.int .u64 a0_0, .int .u64 a0_1, .int .u64 a0_2, .int .u64 a0_3] 33 (0, 0)) (bkx BK224)) : gb225 ≠ gb224)); clear BK224; clear HB; have BK224 := n0_; have HB := n1_; have BK225 := n2_; have GW225 := n3_; have GE225 := n4_; have NB224_225 := n5_; have NB225_224 := n6_; clear n0_ n1_ n2_ n3_ n4_ n5_ n6_; clear hb hbox hg) | ((with_reducible refine gate_dst (N := 4) rfl ?_); refine box_event ?hg (N := 4) ?hd (cs := #[.int .u64 0, .int .u64 0, .int .u64 0, .int .u64 0]) (t := 33) ?hr ?_; (case hd => rfl); (case hg => rfl); (case hr => first | (go_simp; done) | (go_simp; rfl)); intro gb226 hg w7 hbox hb; have n0_ := Aside0.mk (blk_below (g := gb224) (o := .cells #[.int .u64 a0_0, .int .u64 a0_1, .int .u64 a0_2, .int .u64 a0_3] 33 (0, 0)) (bkx BK224) hb); have n1_ := Aside0.mk (blk_below (g := gb225) (o := .cells #[.int .u64 a1_0, .int .u64 a1_1, .int .u64 a1_2, .int .u64 a1_3] 33 (0, 0)) (bkx BK225) hb); have n2_ := Aside0.mk (below_step (belx2 HB GE224 GE225) hb); have n3_ := Aside0.mk (hbox); have n4_ := Aside0.mk ((by rw [hg]; exact (below_size (belx2 HB GE224 GE225)) : w.heap.size ≤ gb226)); have n5_ := Aside0.mk ((by rw [hg]; exact (below_size (belx2 HB GE224 GE225)) : w.heap.size ≤ gb226)); have n6_ := Aside0.mk ((by rw [hg]; exact Nat.ne_of_lt (blk_lt (g := gb224) (o := .cells #[.int .u64 a0_0, .int .u64 a0_1, .int .u64 a0_2, .int .u64 a0_3] 33 (0, 0)) (bkx BK224)) : gb224 ≠ gb226)); have n7_ := Aside0.mk ((by rw [hg]; exact Nat.ne_of_gt (blk_lt (g := gb224) (o := .cells #[.int .u64 a0_0, .int .u64 a0_1, .int .u64 a0_2, .int .u64 a0_3] 33 (0, 0)) (bkx BK224)) : gb226 ≠ gb224)); have n8_ := Aside0.mk ((by rw [hg]; exact Nat.ne_of_lt (blk_lt (g := gb225) (o := .cells #[.int .u64 a1_0, .int .u64 a1_1, .int .u64 a1_2, .int .u64 a1_3] 33 (0, 0)) (bkx BK225)) : gb225 ≠ gb226)); have n9_ := Aside0.mk ((by rw [hg]; exact Nat.ne_of_gt (blk_lt (g := gb225) (o := .cells #[.int .u64 a1_0, .int .u64 a1_1, .int .u64 a1_2, .int .u64 a1_3] 33 (0, 0)) (bkx BK225)) : gb226 ≠ gb225)); clear BK224; clear BK225; clear HB; have BK224 := n0_; have BK225 := n1_; have HB := n2_; have BK226 := n3_; have GW226 := n4_; have GE226 := n5_; have NB224_226 := n6_; have NB226_224 := n7_; have NB225_226 := n8_; have NB226_225 := n9_; clear n0_ n1_ n2_ n3_ n4_ n5_ n6_ n7_ n8_ n9_; clear hb hbox hg; have hnb8 := NB224_225.out; have hnc8 := NB225_224.out; have hnb9 := NB224_226.out; have hnc9 := NB226_224.out; obtain ⟨hcz10_0, hcz10_1, hcz10_2, hcz10_3, hfz10_0, hfz10_1, hfz10_2, hfz10_3⟩ := cells4 BK224.out) | ((with_reducible refine gate_callee (f := 27) rfl ?_); refine goesL_ (some 9) rfl rfl Tryd.func27 (by kernel_rfl) rfl #[.agg #[.int .u64 a0_0, .int .u64 a0_1, .int .u64 a0_2, .int .u64 a0_3]] rfl (by (try simp only [List.map_toArray, List.map_cons, List.map_nil]); first | done | rfl | (simp only [List.length_drop, List.length_take]; rfl)) ?_; (with_reducible refine (scantlingref01_List.calls k a0_0 a0_1 a0_2 a0_3 t227 _ A3.out).mono ?_); rintro e w11 ⟨v228, rfl, ho0, hb⟩; refine ⟨_, rfl, ?_⟩; have n0_ := Aside0.mk (Kd.R_lower ho0 (below_size (belx3 HB GE224 GE225 GE226))); have n1_ := Aside0.mk (blk_below (g := gb224) (o := .cells #[.int .u64 a0_0, .int .u64 a0_1, .int .u64 a0_2, .int .u64 a0_3] 33 (0, 0)) (bkx BK224) hb); have n2_ := Aside0.mk (blk_below (g := gb225) (o := .cells #[.int .u64 a1_0, .int .u64 a1_1, .int .u64 a1_2, .int .u64 a1_3] 33 (0, 0)) (bkx BK225) hb); have n3_ := Aside0.mk (blk_below (g := gb226) (o := .cells #[.int .u64 0, .int .u64 0, .int .u64 0, .int .u64 0] 33 (0, 0)) (bkx BK226) hb); have n4_ := Aside0.mk (below_step (belx3 HB GE224 GE225 GE226) hb); clear BK224; clear BK225; clear BK226; clear HB; have HO229 := n0_; have BK224 := n1_; have BK225 := n2_; have BK226 := n3_; have HB := n4_; clear n0_ n1_ n2_ n3_ n4_; (try clear hb); (try clear hb2); (try clear hk); (try clear hi); (try clear ho0); have hnb12 := NB225_226.out; have hnc12 := NB226_225.out; obtain ⟨hcz13_0, hcz13_1, hcz13_2, hcz13_3, hfz13_0, hfz13_1, hfz13_2, hfz13_3⟩ := cells4 BK225.out) | ((with_reducible refine gate_callee (f := 27) rfl ?_); refine goesL_ (some 11) rfl rfl Tryd.func27 (by kernel_rfl) rfl #[.agg #[.int .u64 a1_0, .int .u64 a1_1, .int .u64 a1_2, .int .u64 a1_3]] rfl (by (try simp only [List.map_toArray, List.map_cons, List.map_nil]); first | done | rfl | (simp only [List.length_drop, List.length_take]; rfl)) ?_; (with_reducible refine (scantlingref01_List.calls k a1_0 a1_1 a1_2 a1_3 t230 _ A4.out).mono ?_); rintro e w14 ⟨v231, rfl, ho0, hb⟩; refine ⟨_, rfl, ?_⟩; have n0_ := Aside0.mk (Kd.R_elder' (by (with_reducible repeat (first | apply Kd.R_alloc | apply Kd.R_drewN | apply Kd.R_drew)); exact HO229.out) (Kd.R_base ho0) hb); have n1_ := Aside0.mk (Kd.R_lower (Kd.R_new' ho0 (Kd.R_lt (by (with_reducible repeat (first | apply Kd.R_alloc | apply Kd.R_drewN | apply Kd.R_drew)); exact HO229.out))) (below_size (belx3 HB GE224 GE225 GE226))); have n2_ := Aside0.mk (blk_below (g := gb224) (o := .cells #[.int .u64 a0_0, .int .u64 a0_1, .int .u64 a0_2, .int .u64 a0_3] 33 (0, 0)) (bkx BK224) hb); have n3_ := Aside0.mk (blk_below (g := gb225) (o := .cells #[.int .u64 a1_0, .int .u64 a1_1, .int .u64 a1_2, .int .u64 a1_3] 33 (0, 0)) (bkx BK225) hb); have n4_ := Aside0.mk (blk_below (g := gb226) (o := .cells #[.int .u64 0, .int .u64 0, .int .u64 0, .int .u64 0] 33 (0, 0)) (bkx BK226) hb); have n5_ := Aside0.mk (below_step (belx3 HB GE224 GE225 GE226) hb); clear HO229; clear BK224; clear BK225; clear BK226; clear HB; have HO229 := n0_; have HO232 := n1_; have BK224 := n2_; have BK225 := n3_; have BK226 := n4_; have HB := n5_; clear n0_ n1_ n2_ n3_ n4_ n5_; (try clear hb); (try clear hb2); (try clear hk); (try clear hi); (try clear ho0)))
  go_simp
  go_loopg [7] k (fun kq v7 w' => ∃ (x5_1 : List Bool) (x7_1 : Int), v7 = .int .i64 x7_1 ∧ Aside0 (scantlingref01_Join.l0 kq x5_1 t230 x7_1 = some (r1, r2, r3, r4)) ∧ Aside0 (kq ≤ k) ∧ Aside0 (Kd.R Kd.bool 4 w' w.heap.size (fun k_ => some k_ ≠ (v231 : Value).ownBlock) v228 x5_1) ∧ Aside0 (Kd.R Kd.bool 4 w' w.heap.size (fun k_ => some k_ ≠ (v228 : Value).ownBlock) v231 t230) ∧ Aside0 (w'.heap[gb224]? = some (.cells #[.int .u64 a0_0, .int .u64 a0_1, .int .u64 a0_2, .int .u64 a0_3] 33 (0, 0))) ∧ Aside0 (w'.heap[gb225]? = some (.cells #[.int .u64 a1_0, .int .u64 a1_1, .int .u64 a1_2, .int .u64 a1_3] 33 (0, 0))) ∧ Aside0 (w'.heap[gb226]? = some (.cells #[.int .u64 0, .int .u64 0, .int .u64 0, .int .u64 0] 33 (0, 0))) ∧ Aside0 (Below w.heap.size w w'))
  case atStart => exact ⟨(t227), (0), (by first | rfl | (simp; done) | (simp [*]; done) | exact congrArg (Value.int .i64) (by unfold wrap64; omega)), (by first | exact H' | (subst_vars; exact H')), ⟨Nat.le_refl _⟩, ⟨by (with_reducible repeat (first | apply Kd.R_alloc | apply Kd.R_drewN | apply Kd.R_drew)); exact Kd.R_mono HO229.out (fun _ hk => hk.2)⟩, ⟨by (with_reducible repeat (first | apply Kd.R_alloc | apply Kd.R_drewN | apply Kd.R_drew)); exact Kd.R_mono HO232.out (fun _ hk => hk.2)⟩, ⟨bkx BK224⟩, ⟨bkx BK225⟩, ⟨bkx BK226⟩, ⟨belx3 HB GE224 GE225 GE226⟩⟩
  case round =>
    clear H'
    try clear hcz10_0; try clear hcz10_1; try clear hcz10_2; try clear hcz10_3; try clear hcz13_0; try clear hcz13_1; try clear hcz13_2; try clear hcz13_3; try clear hfz10_0; try clear hfz10_1; try clear hfz10_2; try clear hfz10_3; try clear hfz13_0; try clear hfz13_1; try clear hfz13_2; try clear hfz13_3
    obtain ⟨x5_1, x7_1, rfl, HA, HK1, HO_5, HO_6, BK224, BK225, BK226, HB⟩ := hrel
    cases gk with
    | zero => exact absurd HA.out (by simp [scantlingref01_Join.l0])
    | succ k1 =>
      have H := HA.out
      clear HA
      simp only [scantlingref01_Join.l0] at H
      by_cases c15 : x7_1 < 256
      case neg =>
        rw [if_neg c15] at H
        have c15b0 : decide (x7_1 < 256) = false := decide_eq_false c15
        clear c15
        replace H := Option.bind_eq_some_iff.mp H
        obtain ⟨⟨t237, t238, t239, t240⟩, A300, H⟩ := H
        replace H : (some (t237, t238, t239, t240)) = some (r1, r2, r3, r4) := H
        have A30 := Aside0.mk A300
        clear A300
        simp only [Option.some.injEq, Prod.mk.injEq] at H
        obtain ⟨rfl, rfl, rfl, rfl⟩ := H
        obtain ⟨Ao31, co31, eo31⟩ := Kd.R_slice HO_5.out
        subst eo31
        go_wp2_with (first | ((with_reducible refine gate_callee (f := 26) rfl ?_); refine goesL_ (some 30) rfl rfl Tryd.func26 (by kernel_rfl) rfl #[.slice Ao31 x5_1.length co31] rfl (by (try simp only [List.map_toArray, List.map_cons, List.map_nil]); first | done | rfl | (simp only [List.length_drop, List.length_take]; rfl)) ?_; (with_reducible refine (scantlingref01_Of.calls _ _ x5_1 t237 t238 t239 t240 _ ?side1 ?side2 A30.out).mono ?_); (case side1 => repeat (first | exact (Kd.R_reads' HO_5.out).2.2 | (with_reducible refine Kd.C_alloc ?_ _) | (with_reducible refine Kd.C_drewN ?_ _) | (with_reducible refine Kd.C_drew ?_))); (case side2 => exact (Kd.R_reads' HO_5.out).2.1); rintro e w32 ⟨rfl, hb⟩; refine ⟨_, rfl, ?_⟩; have n0_ := Aside0.mk (Kd.R_below (by (with_reducible repeat (first | apply Kd.R_alloc | apply Kd.R_drewN | apply Kd.R_drew)); exact HO_5.out) hb); have n1_ := Aside0.mk (Kd.R_below (by (with_reducible repeat (first | apply Kd.R_alloc | apply Kd.R_drewN | apply Kd.R_drew)); exact HO_6.out) hb); have n2_ := Aside0.mk (blk_below (g := gb224) (o := .cells #[.int .u64 a0_0, .int .u64 a0_1, .int .u64 a0_2, .int .u64 a0_3] 33 (0, 0)) (bkx BK224) hb); have n3_ := Aside0.mk (blk_below (g := gb225) (o := .cells #[.int .u64 a1_0, .int .u64 a1_1, .int .u64 a1_2, .int .u64 a1_3] 33 (0, 0)) (bkx BK225) hb); have n4_ := Aside0.mk (blk_below (g := gb226) (o := .cells #[.int .u64 0, .int .u64 0, .int .u64 0, .int .u64 0] 33 (0, 0)) (bkx BK226) hb); have n5_ := Aside0.mk (below_step (belx3 HB GE224 GE225 GE226) hb); clear HO_5; clear HO_6; clear BK224; clear BK225; clear BK226; clear HB; have HO_5 := n0_; have HO_6 := n1_; have BK224 := n2_; have BK225 := n3_; have BK226 := n4_; have HB := n5_; clear n0_ n1_ n2_ n3_ n4_ n5_; (try clear hb); (try clear hb2); (try clear hk); (try clear hi); have hnb33 := NB226_224.out; have hnc33 := NB224_226.out; have hnb34 := NB226_225.out; have hnc34 := NB225_226.out; obtain ⟨hcz35_0, hcz35_1, hcz35_2, hcz35_3, hfz35_0, hfz35_1, hfz35_2, hfz35_3⟩ := cells4 BK226.out))
        refine bodyPost_ret (results_cell_row rfl _ _ gb226 33 #[.int .u64 t237, .int .u64 t238, .int .u64 t239, .int .u64 t240] (0, 0) _ rfl (by (with_reducible repeat (first | refine blk_drewN ?_ _ | refine blk_drew ?_ | refine blk_alloc ?_ _)); exact put4h BK226.out) Tryd.underlying33 rfl (by kernel_rfl)) rfl ?_
        exact ⟨by first | rfl | (simp [errW_none, errW_some] <;> rfl) | (simp [*, errW_none, errW_some] <;> rfl), belx3 HB GE224 GE225 GE226⟩
      rw [if_pos c15] at H
      have c15b0 : decide (x7_1 < 256) = true := decide_eq_true c15
      clear c15
      by_cases c16 : 0 ≤ x7_1
      case neg => rw [if_neg c16] at H; exact absurd H (by simp)
      rw [if_pos c16] at H
      have c16b0 : decide (0 ≤ x7_1) = true := decide_eq_true c16
      clear c16
      by_cases c17 : x7_1 < (x5_1.length : Int)
      case neg => rw [if_neg c17] at H; exact absurd H (by simp)
      rw [if_pos c17] at H
      have c17b0 : decide (x7_1 < (x5_1.length : Int)) = true := decide_eq_true c17
      clear c17
      obtain ⟨bq18, hbq18⟩ : ∃ b_ : Bool, b_ = (rdOf false x5_1 x7_1) := ⟨_, rfl⟩
      replace H : (if bq18 = true then (scantlingref01_Join.l0 k1 (x5_1.set (x7_1 : Int).toNat true) t230 (wrap64 (x7_1 + 1))) else (if x7_1 < (t230.length : Int) then (scantlingref01_Join.l0 k1 (x5_1.set (x7_1 : Int).toNat (rdOf false t230 x7_1)) t230 (wrap64 (x7_1 + 1))) else (none))) = some (r1, r2, r3, r4) := by rw [← hbq18] at H; exact H
      have Nbq18 := Aside0.mk hbq18
      clear hbq18
      by_cases c19 : bq18 = true
      case pos =>
        subst c19
        have H1 : (scantlingref01_Join.l0 k1 (x5_1.set (x7_1 : Int).toNat true) t230 (wrap64 (x7_1 + 1))) = some (r1, r2, r3, r4) := by rw [if_pos rfl] at H; exact H
        clear H
        have H := H1
        clear H1
        obtain ⟨y234, hy234⟩ : ∃ y_ : List Bool, y_ = (x5_1.set (x7_1 : Int).toNat true) := ⟨_, rfl⟩
        replace H : (scantlingref01_Join.l0 k1 y234 t230 (wrap64 (x7_1 + 1))) = some (r1, r2, r3, r4) := by first | (rw [hy234]; with_reducible exact H) | (have H2_ := (Option.bind_some _ _).symm.trans H; rw [hy234]; with_reducible exact H2_) | (have H2_ := (Option.bind_some _ _).symm.trans H; with_reducible exact H2_) | with_reducible exact H | (rw [hy234]; exact H) | exact H
        have Ny234 := Aside0.mk hy234
        clear hy234
        have H' := Aside0.mk H
        clear H
        obtain ⟨Ao21, co21, eo21⟩ := Kd.R_slice HO_5.out
        subst eo21
        have p233 : 0 ≤ (x7_1 : Int) := odt
        have q233 : x7_1 < (x5_1.length : Int) := odt
        obtain ⟨ad233, e233, hx233_0⟩ := Kd.at_bool (Kd.R_reads' HO_5.out).2.2 x7_1 p233 q233
        (try rw [← Nbq18.out] at hx233_0)
        cases e233
        replace p233 := eq_true p233
        replace q233 := eq_true q233
        have p20 : 0 ≤ (x7_1 : Int) := odt
        have q20 : (x7_1 : Int) < ((x5_1.length : Int) : Int) := odt
        obtain ⟨go20, co20, eo20, gb20, gl20, cl20, HG20⟩ := Kd.R_form HO_5.out (by omega)
        (first | cases eo20 | (injection eo20 with ea_ en_ ec_; (first | subst ea_ | (injection ea_ with ea_; subst ea_)); subst ec_; clear en_))
        have GB20 := Aside0.mk gb20
        have GG20 := Aside0.mk HG20
        clear gb20 gl20 HG20
        (first | simp only [add_plain] at hx233_0 | skip)
        obtain ⟨hx20_0, hf20_0⟩ := Kd.R_celln false HO_5.out (x7_1 : Int) p20 q20
        replace p20 := eq_true p20
        replace q20 := eq_true q20
        have HP22 := Kd.R_putg HO_5.out (x7_1 : Int) true
        go_wp2_with (first | ((with_reducible refine gate_store (t := 4) (p := 28) rfl ?_); refine store_event (t := 4) (p := 28) (v := ?vo_w23) (w1 := (wr.setCell ⟨go20, (x7_1 : Int).toNat, none⟩ (.bool true))) ?hg ?ho ?hn ?hr ?_; (case ho => rfl); (case hg => rfl); (case hn => rfl); (case hr => first | (go_simp; done) | (go_simp; rfl)); intro w23 hw; have hg : wr.grownBy w23 (some go20) := (by rw [hw]; exact HP22.2); have hp_ : Kd.R Kd.bool 4 w23 w.heap.size (fun k_ => some k_ ≠ (v231 : Value).ownBlock) (.slice (some ⟨go20, 0, none⟩) x5_1.length co21) y234 := (by rw [hw, Ny234.out]; exact HP22.1); clear HP22; have n0_ := Aside0.mk (hp_); have n1_ := Aside0.mk (Kd.R_after (v := (.slice (some ⟨go20, 0, none⟩) x5_1.length co21)) (v1 := (.slice (some ⟨go20, 0, none⟩) x5_1.length co21)) (ok := (fun _ => True)) (by (with_reducible repeat (first | apply Kd.R_alloc | apply Kd.R_drewN | apply Kd.R_drew)); exact Kd.R_mono HO_6.out (fun _ hk => ⟨trivial, hk⟩)) hg (.inl rfl)); have n2_ := Aside0.mk (blk_grown (g := gb224) (o := .cells #[.int .u64 a0_0, .int .u64 a0_1, .int .u64 a0_2, .int .u64 a0_3] 33 (0, 0)) (bkx BK224) hg (Kd.R_ne HO_5.out BK224.out (by decide))); have n3_ := Aside0.mk (blk_grown (g := gb225) (o := .cells #[.int .u64 a1_0, .int .u64 a1_1, .int .u64 a1_2, .int .u64 a1_3] 33 (0, 0)) (bkx BK225) hg (Kd.R_ne HO_5.out BK225.out (by decide))); have n4_ := Aside0.mk (blk_grown (g := gb226) (o := .cells #[.int .u64 0, .int .u64 0, .int .u64 0, .int .u64 0] 33 (0, 0)) (bkx BK226) hg (Kd.R_ne HO_5.out BK226.out (by decide))); have n5_ := Aside0.mk ((by rw [hw]; exact below_set (HB.out) GB20.out : Below w.heap.size w w23)); clear HO_5; clear HO_6; clear BK224; clear BK225; clear BK226; clear HB; have HO_5 := n0_; have HO_6 := n1_; have BK224 := n2_; have BK225 := n3_; have BK226 := n4_; have HB := n5_; clear n0_ n1_ n2_ n3_ n4_ n5_; clear hg hw hp_))
        go_roundg k1
        case measure => have := HK1.out; omega
        case rel => exact ⟨(y234), (wrap64 (x7_1 + 1)), (by first | rfl | (simp; done) | (simp [*]; done) | exact congrArg (Value.int .i64) (by unfold wrap64; omega)), (by first | exact H' | (subst_vars; exact H')), ⟨by have := HK1.out; omega⟩, ⟨by (with_reducible repeat (first | apply Kd.R_alloc | apply Kd.R_drewN | apply Kd.R_drew)); exact HO_5.out⟩, ⟨by (with_reducible repeat (first | apply Kd.R_alloc | apply Kd.R_drewN | apply Kd.R_drew)); exact Kd.R_mono HO_6.out (fun _ hk => hk.2)⟩, ⟨bkx BK224⟩, ⟨bkx BK225⟩, ⟨bkx BK226⟩, ⟨belx3 HB GE224 GE225 GE226⟩⟩
      replace c19 := Bool.eq_false_iff.mpr c19
      subst c19
      have H1 : (if x7_1 < (t230.length : Int) then (scantlingref01_Join.l0 k1 (x5_1.set (x7_1 : Int).toNat (rdOf false t230 x7_1)) t230 (wrap64 (x7_1 + 1))) else (none)) = some (r1, r2, r3, r4) := by rw [if_neg (show ¬ (false = true) by decide)] at H; exact H
      clear H
      have H := H1
      clear H1
      by_cases c24 : x7_1 < (t230.length : Int)
      case neg => rw [if_neg c24] at H; exact absurd H (by simp)
      rw [if_pos c24] at H
      have c24b0 : decide (x7_1 < (t230.length : Int)) = true := decide_eq_true c24
      clear c24
      obtain ⟨y236, hy236⟩ : ∃ y_ : List Bool, y_ = (x5_1.set (x7_1 : Int).toNat (rdOf false t230 x7_1)) := ⟨_, rfl⟩
      replace H : (scantlingref01_Join.l0 k1 y236 t230 (wrap64 (x7_1 + 1))) = some (r1, r2, r3, r4) := by first | (rw [hy236]; with_reducible exact H) | (have H2_ := (Option.bind_some _ _).symm.trans H; rw [hy236]; with_reducible exact H2_) | (have H2_ := (Option.bind_some _ _).symm.trans H; with_reducible exact H2_) | with_reducible exact H | (rw [hy236]; exact H) | exact H
      have Ny236 := Aside0.mk hy236
      clear hy236
      have H' := Aside0.mk H
      clear H
      obtain ⟨Ao26, co26, eo26⟩ := Kd.R_slice HO_5.out
      subst eo26
      have p233 : 0 ≤ (x7_1 : Int) := odt
      have q233 : x7_1 < (x5_1.length : Int) := odt
      obtain ⟨ad233, e233, hx233_0⟩ := Kd.at_bool (Kd.R_reads' HO_5.out).2.2 x7_1 p233 q233
      (try rw [← Nbq18.out] at hx233_0)
      cases e233
      replace p233 := eq_true p233
      replace q233 := eq_true q233
      obtain ⟨Ao27, co27, eo27⟩ := Kd.R_slice HO_6.out
      subst eo27
      have p235 : 0 ≤ (x7_1 : Int) := odt
      have q235 : x7_1 < (t230.length : Int) := odt
      obtain ⟨ad235, e235, hx235_0⟩ := Kd.at_bool (Kd.R_reads' HO_6.out).2.2 x7_1 p235 q235
      (try rw [← Nbq18.out] at hx235_0)
      cases e235
      replace p235 := eq_true p235
      replace q235 := eq_true q235
      have p25 : 0 ≤ (x7_1 : Int) := odt
      have q25 : (x7_1 : Int) < ((x5_1.length : Int) : Int) := odt
      obtain ⟨go25, co25, eo25, gb25, gl25, cl25, HG25⟩ := Kd.R_form HO_5.out (by omega)
      (first | cases eo25 | (injection eo25 with ea_ en_ ec_; (first | subst ea_ | (injection ea_ with ea_; subst ea_)); subst ec_; clear en_))
      have GB25 := Aside0.mk gb25
      have GG25 := Aside0.mk HG25
      clear gb25 gl25 HG25
      (first | simp only [add_plain] at hx233_0 | skip)
      obtain ⟨hx25_0, hf25_0⟩ := Kd.R_celln false HO_5.out (x7_1 : Int) p25 q25
      replace p25 := eq_true p25
      replace q25 := eq_true q25
      have HP28 := Kd.R_putg HO_5.out (x7_1 : Int) (rdOf false t230 x7_1)
      go_wp2_with (first | ((with_reducible refine gate_store (t := 4) (p := 28) rfl ?_); refine store_event (t := 4) (p := 28) (v := ?vo_w29) (w1 := (wr.setCell ⟨go25, (x7_1 : Int).toNat, none⟩ (.bool (rdOf false t230 x7_1)))) ?hg ?ho ?hn ?hr ?_; (case ho => rfl); (case hg => rfl); (case hn => rfl); (case hr => first | (go_simp; done) | (go_simp; rfl)); intro w29 hw; have hg : wr.grownBy w29 (some go25) := (by rw [hw]; exact HP28.2); have hp_ : Kd.R Kd.bool 4 w29 w.heap.size (fun k_ => some k_ ≠ (.slice (some ad235) t230.length co27 : Value).ownBlock) (.slice (some ⟨go25, 0, none⟩) x5_1.length co26) y236 := (by rw [hw, Ny236.out]; exact HP28.1); clear HP28; have n0_ := Aside0.mk (hp_); have n1_ := Aside0.mk (Kd.R_after (v := (.slice (some ⟨go25, 0, none⟩) x5_1.length co26)) (v1 := (.slice (some ⟨go25, 0, none⟩) x5_1.length co26)) (ok := (fun _ => True)) (by (with_reducible repeat (first | apply Kd.R_alloc | apply Kd.R_drewN | apply Kd.R_drew)); exact Kd.R_mono HO_6.out (fun _ hk => ⟨trivial, hk⟩)) hg (.inl rfl)); have n2_ := Aside0.mk (blk_grown (g := gb224) (o := .cells #[.int .u64 a0_0, .int .u64 a0_1, .int .u64 a0_2, .int .u64 a0_3] 33 (0, 0)) (bkx BK224) hg (Kd.R_ne HO_5.out BK224.out (by decide))); have n3_ := Aside0.mk (blk_grown (g := gb225) (o := .cells #[.int .u64 a1_0, .int .u64 a1_1, .int .u64 a1_2, .int .u64 a1_3] 33 (0, 0)) (bkx BK225) hg (Kd.R_ne HO_5.out BK225.out (by decide))); have n4_ := Aside0.mk (blk_grown (g := gb226) (o := .cells #[.int .u64 0, .int .u64 0, .int .u64 0, .int .u64 0] 33 (0, 0)) (bkx BK226) hg (Kd.R_ne HO_5.out BK226.out (by decide))); have n5_ := Aside0.mk ((by rw [hw]; exact below_set (HB.out) GB25.out : Below w.heap.size w w29)); clear HO_5; clear HO_6; clear BK224; clear BK225; clear BK226; clear HB; have HO_5 := n0_; have HO_6 := n1_; have BK224 := n2_; have BK225 := n3_; have BK226 := n4_; have HB := n5_; clear n0_ n1_ n2_ n3_ n4_ n5_; clear hg hw hp_))
      go_roundg k1
      case measure => have := HK1.out; omega
      case rel => exact ⟨(y236), (wrap64 (x7_1 + 1)), (by first | rfl | (simp; done) | (simp [*]; done) | exact congrArg (Value.int .i64) (by unfold wrap64; omega)), (by first | exact H' | (subst_vars; exact H')), ⟨by have := HK1.out; omega⟩, ⟨by (with_reducible repeat (first | apply Kd.R_alloc | apply Kd.R_drewN | apply Kd.R_drew)); exact HO_5.out⟩, ⟨by (with_reducible repeat (first | apply Kd.R_alloc | apply Kd.R_drewN | apply Kd.R_drew)); exact Kd.R_mono HO_6.out (fun _ hk => hk.2)⟩, ⟨bkx BK224⟩, ⟨bkx BK225⟩, ⟨bkx BK226⟩, ⟨belx3 HB GE224 GE225 GE226⟩⟩
end Go.Proofs.YtepnbnpgifpfbaaDoor.G
