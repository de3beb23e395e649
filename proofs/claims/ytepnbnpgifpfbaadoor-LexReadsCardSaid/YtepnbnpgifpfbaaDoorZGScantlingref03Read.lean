/- Lemmas and walks of this claim: GScantlingref03Read. -/
import Derived.Test.YtepnbnpgifpfbaaDoorZKb
import Derived.Test.YtepnbnpgifpfbaaDoorZGERefOne
set_option linter.unusedVariables false
set_option linter.unusedSimpArgs false
namespace Go.Proofs.YtepnbnpgifpfbaaDoor.G
open Go.RowKit Go.Proofs.YtepnbnpgifpfbaaDoorW.PrintWords Go.Proofs.YtepnbnpgifpfbaaDoorW.PrintLast Go.Proofs.YtepnbnpgifpfbaaDoorW.PrintMore
attribute [local go_sem] max2_int min2_int max_two min_two max_three min_three max_four min_four
set_option linter.unusedVariables false
set_option linter.unusedSimpArgs false
def scantlingref03_Read.l0 : Nat → ByteArray → List (S35) → Int → Option ((List (S35)) × Int × Int)
  | 0, _, _, _ => none
  | k + 1, x0, x5, x6 => if x6 < (x0.size : Int) then (if 0 ≤ x6 then (if (bt x0 x6) = 32 then (scantlingref03_Read.l0 k x0 x5 (wrap64 (x6 + 1))) else ((scantlingref03_one.f k x0 x6).bind fun bt264 => (if bt264.2.2.2.2.2.2.2.2.2.2 = 0 then (if x5.length < 1759218604441 then (scantlingref03_Read.l0 k x0 (x5 ++ [(⟨bt264.1, bt264.2.1, (⟨bt264.2.2.1, bt264.2.2.2.1, bt264.2.2.2.2.1, bt264.2.2.2.2.2.1⟩ : S33), bt264.2.2.2.2.2.2.1, bt264.2.2.2.2.2.2.2.1, bt264.2.2.2.2.2.2.2.2.1⟩ : S35)]) bt264.2.2.2.2.2.2.2.2.2.1) else (none)) else (some (([] : List (S35)), bt264.2.2.2.2.2.2.2.2.2.2, x6))))) else (none)) else (if x5.length < 1759218604441 then (some ((x5 ++ [(⟨10, (x0.size : Int), (⟨0, 0, 0, 0⟩ : S33), (⟨#[]⟩ : ByteArray), 0, 0⟩ : S35)]), 0, 0)) else (none))
def scantlingref03_Read.f (k : Nat) (a0 : ByteArray) : Option ((List (S35)) × Int × Int) := scantlingref03_Read.l0 k a0 ([] : List (S35)) 0
set_option maxHeartbeats 8000000 in
set_option maxRecDepth 100000 in
theorem scantlingref03_Read.calls (k : Nat) (a0 : ByteArray) (r1 : List (S35)) (r2 : Int) (r3 : Int) (w : World) (h : scantlingref03_Read.f k a0 = some (r1, r2, r3)) :
    Calls Tryd.prog 12 #[.string a0] w fun e w' => ∃ v0_ : Value, e = .returned (.tuple #[v0_, .int .i64 r2, .int .i64 r3]) ∧ Kd.R k35 35 w' w.heap.size (fun _ => True) v0_ r1 ∧ Below w.heap.size w w' := by
  have hu35 := Tryd.underlying35
  have HB := Aside0.mk (Below.refl w.heap.size w)
  have H : (scantlingref03_Read.l0 k a0 ([] : List (S35)) 0) = some (r1, r2, r3) := h
  clear h
  have H' := Aside0.mk H
  clear H
  go_enter Tryd.func12, Tryd.ntmps12
  go_wp2
  go_loopg [5, 6] k (fun kq v5 v6 w' => ∃ (x5_1 : List (S35)) (x6_1 : Int), v6 = .int .i64 x6_1 ∧ Aside0 (scantlingref03_Read.l0 kq a0 x5_1 x6_1 = some (r1, r2, r3)) ∧ Aside0 (kq ≤ k) ∧ Aside0 (Kd.R k35 35 w' w.heap.size (fun _ => True) v5 x5_1) ∧ Aside0 (Below w.heap.size w w'))
  case atStart => exact ⟨(([] : List (S35))), (0), (by first | rfl | (simp; done) | (simp [*]; done) | exact congrArg (Value.int .i64) (by unfold wrap64; omega)), (by first | exact H' | (subst_vars; exact H')), ⟨Nat.le_refl _⟩, ⟨by first | exact Kd.R_nil _ _ _ _ _ | exact Kd.N_nil _ _ _ _ _ | exact Kd.V_nil _ _ _ _ _ | exact Kd.Q_nil _ _ _ _ _ | exact Kd.S_nil _ _ _ _ _⟩, ⟨belx HB⟩⟩
  case round =>
    clear H'
    obtain ⟨x5_1, x6_1, rfl, HA, HK1, HO_5, HB⟩ := hrel
    cases gk with
    | zero => exact absurd HA.out (by simp [scantlingref03_Read.l0])
    | succ k1 =>
      have H := HA.out
      clear HA
      simp only [scantlingref03_Read.l0] at H
      by_cases c2 : x6_1 < (a0.size : Int)
      case neg =>
        rw [if_neg c2] at H
        have c2b0 : decide (x6_1 < (a0.size : Int)) = false := decide_eq_false c2
        clear c2
        by_cases c19 : x5_1.length < 1759218604441
        case neg => rw [if_neg c19] at H; exact absurd H (by simp);
        rw [if_pos c19] at H
        have LMc19 := Aside0.mk c19
        clear c19
        obtain ⟨y261, hy261⟩ : ∃ y_ : List (S35), y_ = (x5_1 ++ [(⟨10, (a0.size : Int), (⟨0, 0, 0, 0⟩ : S33), (⟨#[]⟩ : ByteArray), 0, 0⟩ : S35)]) := ⟨_, rfl⟩
        replace H : (some (y261, 0, 0)) = some (r1, r2, r3) := by first | (rw [hy261]; with_reducible exact H) | (have H2_ := (Option.bind_some _ _).symm.trans H; rw [hy261]; with_reducible exact H2_) | (have H2_ := (Option.bind_some _ _).symm.trans H; with_reducible exact H2_) | with_reducible exact H | (rw [hy261]; exact H) | exact H
        have Ny261 := Aside0.mk hy261
        clear hy261
        simp only [Option.some.injEq, Prod.mk.injEq] at H
        obtain ⟨rfl, rfl, rfl⟩ := H
        go_wp2_with (first | ((with_reducible refine gate_builtin (b := .append) (xs := #[.tmp 36, .tmp 40]) rfl ?_); at_builtin; refine Kd.R_append k35 (w0 := w) w.heap.size rfl (.tmp 36) (.tmp 40) 23 35 (.agg #[(.int .i64 0), (.int .i64 0), (.int .u64 0), (.int .u64 0), (.int .u64 0), (.int .u64 0), (.string ⟨#[]⟩), (.int .i64 0), (.int .i64 0)]) 80 rfl Tryd.underlying23 info35 rfl (by decide) (by omega) u5 x5_1 (⟨10, (a0.size : Int), (⟨0, 0, 0, 0⟩ : S33), (⟨#[]⟩ : ByteArray), 0, 0⟩ : S35) [.int .i64 10, .int .i64 (a0.size : Int), .int .u64 0, .int .u64 0, .int .u64 0, .int .u64 0, .string (⟨#[]⟩ : ByteArray), .int .i64 0, .int .i64 0] (fun _ => True) (fun _ => False) rfl rfl ?aP (fun _ hk => hk.elim) ?aF ?aO ?aB ?aS ?aL ?_; (case aP => exact k35_mkM _ _ _ (⟨10, (a0.size : Int), (⟨0, 0, 0, 0⟩ : S33), (⟨#[]⟩ : ByteArray), 0, 0⟩ : S35)); (case aB => exact (belx HB)); (case aF => exact (fun _ _ => trivial)); (case aO => exact (by (with_reducible repeat (first | apply Kd.R_alloc | apply Kd.R_drewN | apply Kd.R_drew)); exact HO_5.out)); (case aS => exact (below_size (belx HB))); (case aL => have := LMc19.out; omega); intro v262 w20 ho hb hg hat; rw [← Ny261.out] at ho; have n0_ := Aside0.mk (hb); have n1_ := Aside0.mk (ho); clear HB; clear HO_5; have HB := n0_; have HO263 := n1_; clear n0_ n1_; clear ho hb hg hat))
        go_ret3
        exact ⟨_, by first | rfl | (simp [errW_none, errW_some] <;> rfl) | (simp [*, errW_none, errW_some] <;> rfl), by (with_reducible repeat (first | apply Kd.R_alloc | apply Kd.R_drewN | apply Kd.R_drew)); exact HO263.out, belx HB⟩
      rw [if_pos c2] at H
      have c2b0 : decide (x6_1 < (a0.size : Int)) = true := decide_eq_true c2
      clear c2
      by_cases c3 : 0 ≤ x6_1
      case neg => rw [if_neg c3] at H; exact absurd H (by simp)
      rw [if_pos c3] at H
      have c3b0 : decide (0 ≤ x6_1) = true := decide_eq_true c3
      clear c3
      by_cases c5 : (bt a0 x6_1) = 32
      case pos =>
        rw [if_pos c5] at H
        have c5b0 : ((bt a0 x6_1) == 32) = true := beq_iff_eq.mpr c5
        have c5b1 : ((bt a0 x6_1) != 32) = false := bne_eq_false_iff_eq.mpr c5
        clear c5
        have H' := Aside0.mk H
        clear H
        have p4 : 0 ≤ (x6_1 : Int) := odt
        have q4 : x6_1 < (a0.size : Int) := odt
        have hx4 := bt_at a0 x6_1
        replace p4 := eq_true p4
        replace q4 := eq_true q4
        go_wp2
        go_roundg k1
        case measure => have := HK1.out; omega
        case rel => exact ⟨(x5_1), (wrap64 (x6_1 + 1)), (by first | rfl | (simp; done) | (simp [*]; done) | exact congrArg (Value.int .i64) (by unfold wrap64; omega)), (by first | exact H' | (subst_vars; exact H')), ⟨by have := HK1.out; omega⟩, ⟨by (with_reducible repeat (first | apply Kd.R_alloc | apply Kd.R_drewN | apply Kd.R_drew)); exact HO_5.out⟩, ⟨belx HB⟩⟩
      rw [if_neg c5] at H
      have c5b0 : ((bt a0 x6_1) == 32) = false := beq_eq_false_iff_ne.mpr c5
      have c5b1 : ((bt a0 x6_1) != 32) = true := bne_iff_ne.mpr c5
      replace H := Option.bind_eq_some_iff.mp H
      obtain ⟨⟨t264, t265, t266, t267, t268, t269, t270, t271, t272, t273, t274⟩, A60, H⟩ := H
      replace H : (if t274 = 0 then (if x5_1.length < 1759218604441 then (scantlingref03_Read.l0 k1 a0 (x5_1 ++ [(⟨t264, t265, (⟨t266, t267, t268, t269⟩ : S33), t270, t271, t272⟩ : S35)]) t273) else (none)) else (some (([] : List (S35)), t274, x6_1))) = some (r1, r2, r3) := H
      have A6 := Aside0.mk A60
      clear A60
      by_cases c7 : t274 = 0
      case neg =>
        rw [if_neg c7] at H
        have c7b0 : (t274 == 0) = false := beq_eq_false_iff_ne.mpr c7
        have c7b1 : (t274 != 0) = true := bne_iff_ne.mpr c7
        simp only [Option.some.injEq, Prod.mk.injEq] at H
        obtain ⟨rfl, rfl, rfl⟩ := H
        have p4 : 0 ≤ (x6_1 : Int) := odt
        have q4 : x6_1 < (a0.size : Int) := odt
        have hx4 := bt_at a0 x6_1
        replace p4 := eq_true p4
        replace q4 := eq_true q4
        go_wp2_with (first | ((with_reducible refine gate_callee (f := 22) rfl ?_); refine goesL_ (some 23) rfl rfl Tryd.func22 (by kernel_rfl) rfl #[.string a0, .int .i64 x6_1] rfl (by (try simp only [List.map_toArray, List.map_cons, List.map_nil]); first | done | rfl | (simp only [List.length_drop, List.length_take]; rfl)) ?_; (with_reducible refine (scantlingref03_one.calls k1 a0 x6_1 t264 t265 t266 t267 t268 t269 t270 t271 t272 t273 t274 _ A6.out).mono ?_); rintro e w15 ⟨rfl, hb⟩; refine ⟨_, rfl, ?_⟩; have n0_ := Aside0.mk (Kd.R_below (by (with_reducible repeat (first | apply Kd.R_alloc | apply Kd.R_drewN | apply Kd.R_drew)); exact HO_5.out) hb); have n1_ := Aside0.mk (below_step (belx HB) hb); clear HO_5; clear HB; have HO_5 := n0_; have HB := n1_; clear n0_ n1_; (try clear hb); (try clear hb2); (try clear hk); (try clear hi)) | ((with_reducible refine gate_dst (N := 7) rfl ?_); refine box_event ?hg (N := 7) ?hd (cs := #[.int .i64 0, .int .i64 0, .int .u64 0, .int .u64 0, .int .u64 0, .int .u64 0, .string (⟨#[]⟩ : ByteArray), .int .i64 0, .int .i64 0]) (t := 35) ?hr ?_; (case hd => rfl); (case hg => rfl); (case hr => first | (go_simp; done) | (go_simp; rfl)); intro gb275 hg w16 hbox hb; have n0_ := Aside0.mk (Kd.R_below (Kd.R_elderB (by (with_reducible repeat (first | apply Kd.R_alloc | apply Kd.R_drewN | apply Kd.R_drew)); exact HO_5.out) gb275 (Nat.le_of_eq hg.symm)) hb); have n1_ := Aside0.mk (below_step (belx HB) hb); have n2_ := Aside0.mk (hbox); have n3_ := Aside0.mk ((by rw [hg]; exact (below_size (belx HB)) : w.heap.size ≤ gb275)); have n4_ := Aside0.mk ((by rw [hg]; exact (below_size (belx HB)) : w.heap.size ≤ gb275)); clear HO_5; clear HB; have HO_5 := n0_; have HB := n1_; have BK275 := n2_; have GW275 := n3_; have GE275 := n4_; clear n0_ n1_ n2_ n3_ n4_; clear hb hbox hg; obtain ⟨hcz17_0, hcz17_1, hcz17_2, hcz17_3, hcz17_4, hcz17_5, hcz17_6, hcz17_7, hcz17_8, hfz17_0, hfz17_1, hfz17_2, hfz17_3, hfz17_4, hfz17_5, hfz17_6, hfz17_7, hfz17_8⟩ := cells9 BK275.out) | ((with_reducible refine gate_store (t := 35) (p := 7) rfl ?_); refine store_event (t := 35) (p := 7) (v := ?vo_w18) (w1 := (((((((((w16.setCell ⟨gb275, 0, none⟩ (.int .i64 t264)).setCell ⟨gb275, 1, none⟩ (.int .i64 t265)).setCell ⟨gb275, 2, none⟩ (.int .u64 t266)).setCell ⟨gb275, 3, none⟩ (.int .u64 t267)).setCell ⟨gb275, 4, none⟩ (.int .u64 t268)).setCell ⟨gb275, 5, none⟩ (.int .u64 t269)).setCell ⟨gb275, 6, none⟩ (.string t270)).setCell ⟨gb275, 7, none⟩ (.int .i64 t271)).setCell ⟨gb275, 8, none⟩ (.int .i64 t272))) ?hg ?ho ?hn ?hr ?_; (case ho => rfl); (case hg => rfl); (case hn => rfl); (case hr => first | (go_simp; done) | (go_simp; rfl)); intro w18 hw; have n0_ : Aside0 (Kd.R k35 35 w18 w.heap.size (fun k_ => k_ ≠ gb275) u5 x5_1) := ⟨(by rw [hw]; exact (by (with_reducible repeat (first | apply Kd.R_alloc | apply Kd.R_drewN | apply Kd.R_drew)); exact Kd.R_mono (Kd.R_far (p := ⟨gb275, 8, none⟩) (Kd.R_far (p := ⟨gb275, 7, none⟩) (Kd.R_far (p := ⟨gb275, 6, none⟩) (Kd.R_far (p := ⟨gb275, 5, none⟩) (Kd.R_far (p := ⟨gb275, 4, none⟩) (Kd.R_far (p := ⟨gb275, 3, none⟩) (Kd.R_far (p := ⟨gb275, 2, none⟩) (Kd.R_far (p := ⟨gb275, 1, none⟩) (Kd.R_far (p := ⟨gb275, 0, none⟩) (Kd.R_mono HO_5.out (fun k_ hk => (⟨hk, hk.2⟩ : _ ∧ k_ ≠ gb275))) (fun _ hk => hk.2) (.int .i64 t264)) (fun _ hk => hk.2) (.int .i64 t265)) (fun _ hk => hk.2) (.int .u64 t266)) (fun _ hk => hk.2) (.int .u64 t267)) (fun _ hk => hk.2) (.int .u64 t268)) (fun _ hk => hk.2) (.int .u64 t269)) (fun _ hk => hk.2) (.string t270)) (fun _ hk => hk.2) (.int .i64 t271)) (fun _ hk => hk.2) (.int .i64 t272)) (fun _ hk => hk.1.2)))⟩; have n1_ : Aside0 (w18.heap[gb275]? = some (.cells #[.int .i64 t264, .int .i64 t265, .int .u64 t266, .int .u64 t267, .int .u64 t268, .int .u64 t269, .string t270, .int .i64 t271, .int .i64 t272] 35 (0, 0))) := ⟨(by rw [hw]; exact (by (with_reducible repeat (first | refine blk_drewN ?_ _ | refine blk_drew ?_ | refine blk_alloc ?_ _)); exact put9h BK275.out))⟩; have n2_ : Aside0 (Below w.heap.size w w18) := ⟨(by rw [hw]; exact (belx1 HB GE275))⟩; clear hw; clear HO_5; clear BK275; clear HB; have HO_5 := n0_; have BK275 := n1_; have HB := n2_; clear n0_ n1_ n2_))
        go_ret3
        exact ⟨_, by first | rfl | (simp [errW_none, errW_some] <;> rfl) | (simp [*, errW_none, errW_some] <;> rfl), by first | exact Kd.R_nil _ _ _ _ _ | exact Kd.N_nil _ _ _ _ _ | exact Kd.V_nil _ _ _ _ _ | exact Kd.Q_nil _ _ _ _ _ | exact Kd.S_nil _ _ _ _ _, belx1 HB GE275⟩
      rw [if_pos c7] at H
      have c7b0 : (t274 == 0) = true := beq_iff_eq.mpr c7
      have c7b1 : (t274 != 0) = false := bne_eq_false_iff_eq.mpr c7
      clear c7
      by_cases c8 : x5_1.length < 1759218604441
      case neg => rw [if_neg c8] at H; exact absurd H (by simp)
      rw [if_pos c8] at H
      have LMc8 := Aside0.mk c8
      clear c8
      obtain ⟨y276, hy276⟩ : ∃ y_ : List (S35), y_ = (x5_1 ++ [(⟨t264, t265, (⟨t266, t267, t268, t269⟩ : S33), t270, t271, t272⟩ : S35)]) := ⟨_, rfl⟩
      replace H : (scantlingref03_Read.l0 k1 a0 y276 t273) = some (r1, r2, r3) := by first | (rw [hy276]; with_reducible exact H) | (have H2_ := (Option.bind_some _ _).symm.trans H; rw [hy276]; with_reducible exact H2_) | (have H2_ := (Option.bind_some _ _).symm.trans H; with_reducible exact H2_) | with_reducible exact H | (rw [hy276]; exact H) | exact H
      have Ny276 := Aside0.mk hy276
      clear hy276
      have H' := Aside0.mk H
      clear H
      have p4 : 0 ≤ (x6_1 : Int) := odt
      have q4 : x6_1 < (a0.size : Int) := odt
      have hx4 := bt_at a0 x6_1
      replace p4 := eq_true p4
      replace q4 := eq_true q4
      go_wp2_with (first | ((with_reducible refine gate_callee (f := 22) rfl ?_); refine goesL_ (some 23) rfl rfl Tryd.func22 (by kernel_rfl) rfl #[.string a0, .int .i64 x6_1] rfl (by (try simp only [List.map_toArray, List.map_cons, List.map_nil]); first | done | rfl | (simp only [List.length_drop, List.length_take]; rfl)) ?_; (with_reducible refine (scantlingref03_one.calls k1 a0 x6_1 t264 t265 t266 t267 t268 t269 t270 t271 t272 t273 t274 _ A6.out).mono ?_); rintro e w9 ⟨rfl, hb⟩; refine ⟨_, rfl, ?_⟩; have n0_ := Aside0.mk (Kd.R_below (by (with_reducible repeat (first | apply Kd.R_alloc | apply Kd.R_drewN | apply Kd.R_drew)); exact HO_5.out) hb); have n1_ := Aside0.mk (below_step (belx HB) hb); clear HO_5; clear HB; have HO_5 := n0_; have HB := n1_; clear n0_ n1_; (try clear hb); (try clear hb2); (try clear hk); (try clear hi)) | ((with_reducible refine gate_dst (N := 7) rfl ?_); refine box_event ?hg (N := 7) ?hd (cs := #[.int .i64 0, .int .i64 0, .int .u64 0, .int .u64 0, .int .u64 0, .int .u64 0, .string (⟨#[]⟩ : ByteArray), .int .i64 0, .int .i64 0]) (t := 35) ?hr ?_; (case hd => rfl); (case hg => rfl); (case hr => first | (go_simp; done) | (go_simp; rfl)); intro gb275 hg w10 hbox hb; have n0_ := Aside0.mk (Kd.R_below (Kd.R_elderB (by (with_reducible repeat (first | apply Kd.R_alloc | apply Kd.R_drewN | apply Kd.R_drew)); exact HO_5.out) gb275 (Nat.le_of_eq hg.symm)) hb); have n1_ := Aside0.mk (below_step (belx HB) hb); have n2_ := Aside0.mk (hbox); have n3_ := Aside0.mk ((by rw [hg]; exact (below_size (belx HB)) : w.heap.size ≤ gb275)); have n4_ := Aside0.mk ((by rw [hg]; exact (below_size (belx HB)) : w.heap.size ≤ gb275)); clear HO_5; clear HB; have HO_5 := n0_; have HB := n1_; have BK275 := n2_; have GW275 := n3_; have GE275 := n4_; clear n0_ n1_ n2_ n3_ n4_; clear hb hbox hg; obtain ⟨hcz11_0, hcz11_1, hcz11_2, hcz11_3, hcz11_4, hcz11_5, hcz11_6, hcz11_7, hcz11_8, hfz11_0, hfz11_1, hfz11_2, hfz11_3, hfz11_4, hfz11_5, hfz11_6, hfz11_7, hfz11_8⟩ := cells9 BK275.out) | ((with_reducible refine gate_store (t := 35) (p := 7) rfl ?_); refine store_event (t := 35) (p := 7) (v := ?vo_w12) (w1 := (((((((((w10.setCell ⟨gb275, 0, none⟩ (.int .i64 t264)).setCell ⟨gb275, 1, none⟩ (.int .i64 t265)).setCell ⟨gb275, 2, none⟩ (.int .u64 t266)).setCell ⟨gb275, 3, none⟩ (.int .u64 t267)).setCell ⟨gb275, 4, none⟩ (.int .u64 t268)).setCell ⟨gb275, 5, none⟩ (.int .u64 t269)).setCell ⟨gb275, 6, none⟩ (.string t270)).setCell ⟨gb275, 7, none⟩ (.int .i64 t271)).setCell ⟨gb275, 8, none⟩ (.int .i64 t272))) ?hg ?ho ?hn ?hr ?_; (case ho => rfl); (case hg => rfl); (case hn => rfl); (case hr => first | (go_simp; done) | (go_simp; rfl)); intro w12 hw; have n0_ : Aside0 (Kd.R k35 35 w12 w.heap.size (fun k_ => k_ ≠ gb275) u5 x5_1) := ⟨(by rw [hw]; exact (by (with_reducible repeat (first | apply Kd.R_alloc | apply Kd.R_drewN | apply Kd.R_drew)); exact Kd.R_mono (Kd.R_far (p := ⟨gb275, 8, none⟩) (Kd.R_far (p := ⟨gb275, 7, none⟩) (Kd.R_far (p := ⟨gb275, 6, none⟩) (Kd.R_far (p := ⟨gb275, 5, none⟩) (Kd.R_far (p := ⟨gb275, 4, none⟩) (Kd.R_far (p := ⟨gb275, 3, none⟩) (Kd.R_far (p := ⟨gb275, 2, none⟩) (Kd.R_far (p := ⟨gb275, 1, none⟩) (Kd.R_far (p := ⟨gb275, 0, none⟩) (Kd.R_mono HO_5.out (fun k_ hk => (⟨hk, hk.2⟩ : _ ∧ k_ ≠ gb275))) (fun _ hk => hk.2) (.int .i64 t264)) (fun _ hk => hk.2) (.int .i64 t265)) (fun _ hk => hk.2) (.int .u64 t266)) (fun _ hk => hk.2) (.int .u64 t267)) (fun _ hk => hk.2) (.int .u64 t268)) (fun _ hk => hk.2) (.int .u64 t269)) (fun _ hk => hk.2) (.string t270)) (fun _ hk => hk.2) (.int .i64 t271)) (fun _ hk => hk.2) (.int .i64 t272)) (fun _ hk => hk.1.2)))⟩; have n1_ : Aside0 (w12.heap[gb275]? = some (.cells #[.int .i64 t264, .int .i64 t265, .int .u64 t266, .int .u64 t267, .int .u64 t268, .int .u64 t269, .string t270, .int .i64 t271, .int .i64 t272] 35 (0, 0))) := ⟨(by rw [hw]; exact (by (with_reducible repeat (first | refine blk_drewN ?_ _ | refine blk_drew ?_ | refine blk_alloc ?_ _)); exact put9h BK275.out))⟩; have n2_ : Aside0 (Below w.heap.size w w12) := ⟨(by rw [hw]; exact (belx1 HB GE275))⟩; clear hw; clear HO_5; clear BK275; clear HB; have HO_5 := n0_; have BK275 := n1_; have HB := n2_; clear n0_ n1_ n2_; obtain ⟨hcz13_0, hcz13_1, hcz13_2, hcz13_3, hcz13_4, hcz13_5, hcz13_6, hcz13_7, hcz13_8, hfz13_0, hfz13_1, hfz13_2, hfz13_3, hfz13_4, hfz13_5, hfz13_6, hfz13_7, hfz13_8⟩ := cells9 BK275.out) | ((with_reducible refine gate_builtin (b := .append) (xs := #[.tmp 31, .tmp 33]) rfl ?_); at_builtin; refine Kd.R_append k35 (w0 := w) w.heap.size rfl (.tmp 31) (.tmp 33) 23 35 (.agg #[(.int .i64 0), (.int .i64 0), (.int .u64 0), (.int .u64 0), (.int .u64 0), (.int .u64 0), (.string ⟨#[]⟩), (.int .i64 0), (.int .i64 0)]) 80 rfl Tryd.underlying23 info35 rfl (by decide) (by omega) u5 x5_1 (⟨t264, t265, (⟨t266, t267, t268, t269⟩ : S33), t270, t271, t272⟩ : S35) [.int .i64 t264, .int .i64 t265, .int .u64 t266, .int .u64 t267, .int .u64 t268, .int .u64 t269, .string t270, .int .i64 t271, .int .i64 t272] (fun k_ => k_ ≠ gb275) (fun _ => False) rfl rfl ?aP (fun _ hk => hk.elim) ?aF ?aO ?aB ?aS ?aL ?_; (case aP => exact k35_mkM _ _ _ (⟨t264, t265, (⟨t266, t267, t268, t269⟩ : S33), t270, t271, t272⟩ : S35)); (case aB => exact (belx1 HB GE275)); (case aF => exact (fun k_ hk => Kd.freshB (g := gb275) (o := .cells #[.int .i64 t264, .int .i64 t265, .int .u64 t266, .int .u64 t267, .int .u64 t268, .int .u64 t269, .string t270, .int .i64 t271, .int .i64 t272] 35 (0, 0)) (bkx BK275) k_ hk)); (case aO => exact (by (with_reducible repeat (first | apply Kd.R_alloc | apply Kd.R_drewN | apply Kd.R_drew)); exact HO_5.out)); (case aS => exact (below_size (belx1 HB GE275))); (case aL => have := LMc8.out; omega); intro v277 w14 ho hb hg hat; rw [← Ny276.out] at ho; have n0_ := Aside0.mk (blk_grown (g := gb275) (o := .cells #[.int .i64 t264, .int .i64 t265, .int .u64 t266, .int .u64 t267, .int .u64 t268, .int .u64 t269, .string t270, .int .i64 t271, .int .i64 t272] 35 (0, 0)) (bkx BK275) hg (Kd.R_away HO_5.out (fun _ hk => hk))); have n1_ := Aside0.mk (hb); have n2_ := Aside0.mk (ho); clear BK275; clear HB; clear HO_5; have BK275 := n0_; have HB := n1_; have HO278 := n2_; clear n0_ n1_ n2_; clear ho hb hg hat))
      go_roundg k1
      case measure => have := HK1.out; omega
      case rel => exact ⟨(y276), (t273), (by first | rfl | (simp; done) | (simp [*]; done) | exact congrArg (Value.int .i64) (by unfold wrap64; omega)), (by first | exact H' | (subst_vars; exact H')), ⟨by have := HK1.out; omega⟩, ⟨by (with_reducible repeat (first | apply Kd.R_alloc | apply Kd.R_drewN | apply Kd.R_drew)); exact Kd.R_mono HO278.out (fun _ hk => trivial)⟩, ⟨belx1 HB GE275⟩⟩
end Go.Proofs.YtepnbnpgifpfbaaDoor.G
