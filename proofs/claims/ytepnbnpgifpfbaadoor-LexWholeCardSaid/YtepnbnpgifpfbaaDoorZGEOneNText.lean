/- Lemmas and walks of this claim: GEOneNText. -/
import Derived.Test.YtepnbnpgifpfbaaDoorZKb
import Derived.Test.YtepnbnpgifpfbaaDoorZKe
import Derived.Deep.RegionWith
import Derived.Laws.EntriesVeiled
set_option linter.unusedVariables false
set_option linter.unusedSimpArgs false
namespace Go.Proofs.YtepnbnpgifpfbaaDoor.G
open Go.RowKit Go.Proofs.YtepnbnpgifpfbaaDoorW.PrintWords
set_option maxHeartbeats 60000000 in
set_option maxRecDepth 1000000 in
theorem one_text_neg (s : ByteArray) (hs : 0 < s.size) (c : Int) (hc : bt s 0 = c) (h46 : c = 34) (n : Int) (hn : strings_IndexByte.f (s.extract 1 s.size) 34 = some n) (hneg : n < 0) (w : World) :
    Calls Tryd.prog 21 #[.string s] w fun e w' => e = .returned (.tuple #[.agg #[.int .i64 0, .int .i64 0, .int .u64 0, .int .u64 0, .int .u64 0, .int .u64 0, .string (⟨#[]⟩ : ByteArray), .int .i64 0, .int .i64 0], .int .i64 (0), .int .i64 (3)]) ∧ Below w.heap.size w w' := by
  subst h46
  have hx : ∀ h : 0 < s.size, ((s[0]'h).toNat : Int) = 34 := fun h => (bt_at s 0 h).trans hc
  have h5 : (0 : Int) < (s.size : Int) := by omega
  have HB := Aside0.mk (Below.refl w.heap.size w)
  go_enter Tryd.func21, Tryd.ntmps21
  go_wp2_with ((with_reducible refine gate_dst (N := 2) rfl ?_); refine box_event ?hg (N := 2) ?hd (cs := #[.int .i64 0, .int .i64 0, .int .u64 0, .int .u64 0, .int .u64 0, .int .u64 0, .string (⟨#[]⟩ : ByteArray), .int .i64 0, .int .i64 0]) (t := 35) ?hr ?_; (case hd => rfl); (case hg => rfl); (case hr => first | (go_simp; done) | (go_simp; rfl)); intro g hg w3 hbox hb; have HB1 := Aside0.mk (below_step (by repeat (first | (with_reducible first | exact HB.out | apply below_alloc | apply pw_below_drewN | apply below_drew1 | apply below_drew) | exact HB.out)) hb); have BK1 := Aside0.mk hbox; have GE1 := Aside0.mk ((by rw [hg]; exact (below_size (by repeat (first | (with_reducible first | exact HB.out | apply below_alloc | apply pw_below_drewN | apply below_drew1 | apply below_drew) | exact HB.out)))) : w.heap.size ≤ g); clear hb hbox hg; clear HB)
  apply region_via (F := fun _ _ w' => w'.heap[g]? = some (.cells #[.int .i64 0, .int .i64 0, .int .u64 0, .int .u64 0, .int .u64 0, .int .u64 0, .string (⟨#[]⟩ : ByteArray), .int .i64 0, .int .i64 0] 35 (0, 0)) ∧ Below w.heap.size w w')
  case hr =>
    first | (go_region_with (go_at_call 28; refine (shorts.at _).mono ?_; rintro e W1 ⟨r, rfl, hm, hb⟩; have BK2 := Aside0.mk (blk_below (g := g) (o := .cells #[.int .i64 0, .int .i64 0, .int .u64 0, .int .u64 0, .int .u64 0, .int .u64 0, .string (⟨#[]⟩ : ByteArray), .int .i64 0, .int .i64 0] 35 (0, 0)) (by (with_reducible repeat (first | refine blk_drewN ?_ _ | refine blk_drew ?_ | refine blk_alloc ?_ _)); exact BK1.out) hb); have HB2 := Aside0.mk (below_step (by repeat (first | (with_reducible first | exact HB1.out | apply below_alloc | apply pw_below_drewN | apply below_drew1 | apply below_drew) | exact HB1.out)) hb); have lk := run_look_none Tryd.underlying57 Tryd.underlying5 hm 34 (.int .i64 0) (zero3 _) (show Instr.findNow (.int .u8) (.int .u8 34) shortsE.toList 0 = some none from rfl); (try clear BK1); (try clear HB1); clear hm hb; have hc1_0 := (blk_cell BK2.out 0).trans rfl; have hf1_0 := blk_frozen BK2.out 0; have hc1_1 := (blk_cell BK2.out 1).trans rfl; have hf1_1 := blk_frozen BK2.out 1; have hc1_2 := (blk_cell BK2.out 2).trans rfl; have hf1_2 := blk_frozen BK2.out 2; have hc1_3 := (blk_cell BK2.out 3).trans rfl; have hf1_3 := blk_frozen BK2.out 3; have hc1_4 := (blk_cell BK2.out 4).trans rfl; have hf1_4 := blk_frozen BK2.out 4; have hc1_5 := (blk_cell BK2.out 5).trans rfl; have hf1_5 := blk_frozen BK2.out 5; have hc1_6 := (blk_cell BK2.out 6).trans rfl; have hf1_6 := blk_frozen BK2.out 6; have hc1_7 := (blk_cell BK2.out 7).trans rfl; have hf1_7 := blk_frozen BK2.out 7; have hc1_8 := (blk_cell BK2.out 8).trans rfl; have hf1_8 := blk_frozen BK2.out 8)) | fail "region 1"
    all_goals obtain ⟨z, hz⟩ : ∃ z : Nat, z = 0 := ⟨0, rfl⟩
    all_goals exact ViaQ.mk r z rfl ⟨(by (with_reducible repeat (first | refine blk_drewN ?_ _ | refine blk_drew ?_ | refine blk_alloc ?_ _)); exact BK2.out), (by repeat (first | (with_reducible first | exact HB2.out | apply below_alloc | apply pw_below_drewN | apply below_drew1 | apply below_drew) | exact HB2.out))⟩
  case ht =>
  rintro r1 - W2 ⟨BK, HB⟩
  have BK3 := Aside0.mk BK
  have HB3 := Aside0.mk HB
  have hs2 : w.heap.size ≤ W2.heap.size := below_size HB
  have hg2 : g < W2.heap.size := blk_lt BK
  clear BK HB
  go_wp2_with fail
  apply region_via (F := fun _ g2 w' => w'.heap[g]? = some (.cells #[.int .i64 0, .int .i64 0, .int .u64 0, .int .u64 0, .int .u64 0, .int .u64 0, .string (⟨#[]⟩ : ByteArray), .int .i64 0, .int .i64 0] 35 (0, 0)) ∧ w'.heap[g2]? = some (.cells #[.int .u8 34, .int .i64 3, .func (.func 38) #[] #[]] 61 (0, 0)) ∧ g < g2 ∧ Below w.heap.size w w')
  case hr =>
    first | (go_region_with (go_at_call 30; refine (longs.at _).mono ?_; rintro e W4 ⟨r2, rfl, hm, hb⟩; have BK4 := Aside0.mk (blk_below (g := g) (o := .cells #[.int .i64 0, .int .i64 0, .int .u64 0, .int .u64 0, .int .u64 0, .int .u64 0, .string (⟨#[]⟩ : ByteArray), .int .i64 0, .int .i64 0] 35 (0, 0)) (by (with_reducible repeat (first | refine blk_drewN ?_ _ | refine blk_drew ?_ | refine blk_alloc ?_ _)); exact BK3.out) hb); have HB4 := Aside0.mk (below_step (by repeat (first | (with_reducible first | exact HB3.out | apply below_alloc | apply pw_below_drewN | apply below_drew1 | apply below_drew) | exact HB3.out)) hb); have lk := run_look Tryd.underlying63 Tryd.underlying5 hm 34 1 _ (show Instr.findNow (.int .u8) (.int .u8 34) longsE.toList 0 = some (some (1, .agg #[.int .u8 34, .int .i64 3, .func (.func 38) #[] #[]])) from rfl); have lk2 := fun o : Obj => (run_look Tryd.underlying63 Tryd.underlying5 (blk_alloc hm o) 34 1 _ (show Instr.findNow (.int .u8) (.int .u8 34) longsE.toList 0 = some (some (1, .agg #[.int .u8 34, .int .i64 3, .func (.func 38) #[] #[]])) from rfl)); (try (have BL := Aside0.mk (blk_below (g := W2.heap.size) (o := .cells #[.int .u8 0, .int .i64 0, .nilFunc] 61 (0, 0)) (by (with_reducible repeat (first | refine blk_drewN ?_ _ | refine blk_drew ?_)); exact blk_new _ _) hb); have hc3_0 := (blk_cell BL.out 0).trans rfl; have hf3_0 := blk_frozen BL.out 0; have hc3_1 := (blk_cell BL.out 1).trans rfl; have hf3_1 := blk_frozen BL.out 1; have hc3_2 := (blk_cell BL.out 2).trans rfl; have hf3_2 := blk_frozen BL.out 2)); (try clear BK3); (try clear HB3); clear hm hb)) | fail "region 6"
    all_goals (try go_simp)
    all_goals first
      | (generalize hz : W4.heap.size = z; exact ViaQ.mk r2 z rfl ⟨blk_alloc BK4.out _, hz ▸ blk_new W4 _, hz ▸ blk_lt BK4.out, below_alloc HB4.out _⟩)
      | (generalize hz : W2.heap.size = z; have hp := put3 (hz ▸ BL.out) HB4.out (hz ▸ hs2) (.int .u8 34) (.int .i64 3) (.func (.func 38) #[] #[]); exact ViaQ.mk r2 z rfl ⟨put3_far BK4.out (hz ▸ hg2) _ _ _, hp.1, hz ▸ hg2, hp.2⟩)
  case ht =>
  rintro r2 g2 W5 ⟨BK, BL, hgg, HB⟩
  have hg1 : (g = g2) = False := eq_false (by omega)
  have hg3 : (g2 = g) = False := eq_false (by omega)
  have BK5 := Aside0.mk BK
  have HB5 := Aside0.mk HB
  have BL5 := Aside0.mk BL
  clear BK BL HB
  skip; have hc5_0 := (blk_cell BK5.out 0).trans rfl; have hf5_0 := blk_frozen BK5.out 0; have hc5_1 := (blk_cell BK5.out 1).trans rfl; have hf5_1 := blk_frozen BK5.out 1; have hc5_2 := (blk_cell BK5.out 2).trans rfl; have hf5_2 := blk_frozen BK5.out 2; have hc5_3 := (blk_cell BK5.out 3).trans rfl; have hf5_3 := blk_frozen BK5.out 3; have hc5_4 := (blk_cell BK5.out 4).trans rfl; have hf5_4 := blk_frozen BK5.out 4; have hc5_5 := (blk_cell BK5.out 5).trans rfl; have hf5_5 := blk_frozen BK5.out 5; have hc5_6 := (blk_cell BK5.out 6).trans rfl; have hf5_6 := blk_frozen BK5.out 6; have hc5_7 := (blk_cell BK5.out 7).trans rfl; have hf5_7 := blk_frozen BK5.out 7; have hc5_8 := (blk_cell BK5.out 8).trans rfl; have hf5_8 := blk_frozen BK5.out 8; have hc6_0 := (blk_cell BL5.out 0).trans rfl; have hf6_0 := blk_frozen BL5.out 0; have hc6_1 := (blk_cell BL5.out 1).trans rfl; have hf6_1 := blk_frozen BL5.out 1; have hc6_2 := (blk_cell BL5.out 2).trans rfl; have hf6_2 := blk_frozen BL5.out 2
  have hx1 : (1 : Int) ≤ (s.size : Int) := by omega
  go_wp2_with fail
  apply region_via (F := fun _ _ w' => w'.heap[g]? = some (.cells #[.int .i64 0, .int .i64 0, .int .u64 0, .int .u64 0, .int .u64 0, .int .u64 0, .string (⟨#[]⟩ : ByteArray), .int .i64 0, .int .i64 0] 35 (0, 0)) ∧ w'.heap[g2]? = some (.cells #[.int .u8 34, .int .i64 3, .func (.func 38) #[] #[]] 61 (0, 0)) ∧ Below w.heap.size w w')
  case hr =>
    first | (go_region_with (go_at_call 31; refine (strings_IndexByte.calls _ _ n _ hn).mono ?_; rintro e W6 ⟨rfl, hd⟩; have hb := hd.below; have BK6 := Aside0.mk (blk_below (g := g) (o := .cells #[.int .i64 0, .int .i64 0, .int .u64 0, .int .u64 0, .int .u64 0, .int .u64 0, .string (⟨#[]⟩ : ByteArray), .int .i64 0, .int .i64 0] 35 (0, 0)) (by (with_reducible repeat (first | refine blk_drewN ?_ _ | refine blk_drew ?_ | refine blk_alloc ?_ _)); exact BK5.out) hb); have BL6 := Aside0.mk (blk_below (g := g2) (o := .cells #[.int .u8 34, .int .i64 3, .func (.func 38) #[] #[]] 61 (0, 0)) (by (with_reducible repeat (first | refine blk_drewN ?_ _ | refine blk_drew ?_ | refine blk_alloc ?_ _)); exact BL5.out) hb); have HB6 := Aside0.mk (below_step (by repeat (first | (with_reducible first | exact HB5.out | apply below_alloc | apply pw_below_drewN | apply below_drew1 | apply below_drew) | exact HB5.out)) hb); clear hd hb)) | fail "region 9"
    all_goals (try go_simp)
    all_goals obtain ⟨z1, hz1⟩ : ∃ z : Nat, z = 0 := ⟨0, rfl⟩
    all_goals obtain ⟨z2, hz2⟩ : ∃ z : Nat, z = 0 := ⟨0, rfl⟩
    all_goals exact ViaQ.mk z1 z2 rfl ⟨(by (with_reducible repeat (first | refine blk_drewN ?_ _ | refine blk_drew ?_ | refine blk_alloc ?_ _)); exact BK6.out), (by (with_reducible repeat (first | refine blk_drewN ?_ _ | refine blk_drew ?_ | refine blk_alloc ?_ _)); exact BL6.out), (by repeat (first | (with_reducible first | exact HB6.out | apply below_alloc | apply pw_below_drewN | apply below_drew1 | apply below_drew) | exact HB6.out))⟩
  case ht =>
  rintro - - W7 ⟨BK, BL, HB⟩
  have BK7 := Aside0.mk BK
  have HB7 := Aside0.mk HB
  have BL7 := Aside0.mk BL
  have hs7 : w.heap.size ≤ W7.heap.size := below_size HB
  have hg7 : g < W7.heap.size := blk_lt BK
  have hg8 : g2 < W7.heap.size := blk_lt BL
  have hg27 : (g2 = W7.heap.size) = False := eq_false (by omega)
  have hg72 : (W7.heap.size = g2) = False := eq_false (by omega)
  clear BK BL HB
  skip; have hc7_0 := (blk_cell BK7.out 0).trans rfl; have hf7_0 := blk_frozen BK7.out 0; have hc7_1 := (blk_cell BK7.out 1).trans rfl; have hf7_1 := blk_frozen BK7.out 1; have hc7_2 := (blk_cell BK7.out 2).trans rfl; have hf7_2 := blk_frozen BK7.out 2; have hc7_3 := (blk_cell BK7.out 3).trans rfl; have hf7_3 := blk_frozen BK7.out 3; have hc7_4 := (blk_cell BK7.out 4).trans rfl; have hf7_4 := blk_frozen BK7.out 4; have hc7_5 := (blk_cell BK7.out 5).trans rfl; have hf7_5 := blk_frozen BK7.out 5; have hc7_6 := (blk_cell BK7.out 6).trans rfl; have hf7_6 := blk_frozen BK7.out 6; have hc7_7 := (blk_cell BK7.out 7).trans rfl; have hf7_7 := blk_frozen BK7.out 7; have hc7_8 := (blk_cell BK7.out 8).trans rfl; have hf7_8 := blk_frozen BK7.out 8; have hc8_0 := (blk_cell BL7.out 0).trans rfl; have hf8_0 := blk_frozen BL7.out 0; have hc8_1 := (blk_cell BL7.out 1).trans rfl; have hf8_1 := blk_frozen BL7.out 1; have hc8_2 := (blk_cell BL7.out 2).trans rfl; have hf8_2 := blk_frozen BL7.out 2
  go_wp2_with fail
  apply region_via (F := fun _ _ w' => w'.heap[g]? = some (.cells #[.int .i64 0, .int .i64 0, .int .u64 0, .int .u64 0, .int .u64 0, .int .u64 0, .string (⟨#[]⟩ : ByteArray), .int .i64 0, .int .i64 0] 35 (0, 0)) ∧ Below w.heap.size w w')
  case hr =>
    first | (go_region_with fail) | fail "region 11"
    all_goals (try go_simp)
    all_goals obtain ⟨z1, hz1⟩ : ∃ z : Nat, z = 0 := ⟨0, rfl⟩
    all_goals obtain ⟨z2, hz2⟩ : ∃ z : Nat, z = 0 := ⟨0, rfl⟩
    all_goals have hpp := put9 BK7.out HB7.out GE1.out (.int .i64 0) (.int .i64 0) (.int .u64 0) (.int .u64 0) (.int .u64 0) (.int .u64 0) (.string (⟨#[]⟩ : ByteArray)) (.int .i64 0) (.int .i64 0)
    all_goals exact ViaQ.mk z1 z2 rfl ⟨by (with_reducible repeat (first | refine blk_drewN ?_ _ | refine blk_drew ?_)); exact hpp.1, by (with_reducible repeat (first | apply pw_below_drewN | apply below_drew1 | apply below_drew)); exact hpp.2⟩
  case ht =>
  rintro - - W8 ⟨BK, HB⟩
  have BK8 := Aside0.mk BK
  have HB8 := Aside0.mk HB
  clear BK HB
  go_wp2_with fail
  all_goals refine bodyPost_ret (results_ctt rfl _ _ g 35 #[.int .i64 0, .int .i64 0, .int .u64 0, .int .u64 0, .int .u64 0, .int .u64 0, .string (⟨#[]⟩ : ByteArray), .int .i64 0, .int .i64 0] (0, 0) _ rfl (by (with_reducible repeat (first | refine blk_drewN ?_ _ | refine blk_drew ?_ | refine blk_alloc ?_ _)); exact BK8.out) Tryd.underlying35 rfl (by kernel_rfl)) rfl ?_
  all_goals exact ⟨rfl, (by repeat (first | (with_reducible first | exact HB8.out | apply below_alloc | apply pw_below_drewN | apply below_drew1 | apply below_drew) | exact HB8.out))⟩
end Go.Proofs.YtepnbnpgifpfbaaDoor.G
