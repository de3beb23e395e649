/- Lemmas and walks of this claim: GELexA, GLexText, GLexRepeat. -/
import Derived.Test.YtepnbnpgifpfbaaDoorZKb
import Derived.Test.YtepnbnpgifpfbaaDoorZGELexC
import Derived.Test.YtepnbnpgifpfbaaDoorZGELexD
set_option linter.unusedVariables false
set_option linter.unusedSimpArgs false
namespace Go.Proofs.YtepnbnpgifpfbaaDoor.G
open Go.RowKit Go.Proofs.YtepnbnpgifpfbaaDoorW.PrintWords
def lex_number.f (a0 : ByteArray) : Option (Int × Bool) :=
  if a0.size ≤ 281474976710656 then
    if a0.toList.isEmpty then some (0, false)
    else if 1 < a0.size ∧ bt a0 0 = 48 then some (0, false)
    else if (stripD a0).toList.isEmpty then
      match Lib.atoiAll a0.data.toList with
      | .ok v => some (if v > 255 then 256 else v, true)
      | .range => some (256, true)
      | _ => none
    else some (0, false)
  else none
theorem lex_number.calls (a0 : ByteArray) (r1 : Int) (r2 : Bool) (w : World) (hL_ : LaidW w) (h : lex_number.f a0 = some (r1, r2)) :
    Calls Tryd.prog 47 #[.string a0] w fun e w' => e = .returned (.tuple #[.int .i64 r1, .bool r2]) ∧ Below w.heap.size w w' := by
  unfold lex_number.f at h
  by_cases hmax : a0.size ≤ 281474976710656
  · rw [if_pos hmax] at h
    cases h0 : a0.toList.isEmpty with
    | true =>
      rw [h0, if_pos rfl] at h
      obtain ⟨rfl, rfl⟩ := by simpa using h
      rw [(isEmpty_iff a0).1 h0]
      exact number_empty w
    | false =>
      rw [h0, if_neg (by decide)] at h
      by_cases hz : 1 < a0.size ∧ bt a0 0 = 48
      · rw [if_pos hz] at h
        obtain ⟨rfl, rfl⟩ := by simpa using h
        exact number_zero a0 h0 (by omega) (by simpa using hz.2) w
      · rw [if_neg hz] at h
        cases h3 : (stripD a0).toList.isEmpty with
        | false =>
          rw [h3, if_neg (by decide)] at h
          obtain ⟨rfl, rfl⟩ := by simpa using h
          by_cases hs : a0.size ≤ 1
          · exact number_cut_a a0 h0 hs hmax h3 w hL_
          · exact number_cut_b a0 h0 (by omega) (by simpa using fun h => hz ⟨by omega, h⟩) hmax h3 w hL_
        | true =>
          rw [h3, if_pos rfl] at h
          cases hv : Lib.atoiAll a0.data.toList with
          | ok v =>
            rw [hv] at h
            obtain ⟨rfl, rfl⟩ : (if v > 255 then 256 else v) = r1 ∧ true = r2 := by simpa using h
            by_cases hs : a0.size ≤ 1
            · exact number_ok_a a0 h0 hs hmax h3 v hv w hL_
            · exact number_ok_b a0 h0 (by omega) (by simpa using fun h => hz ⟨by omega, h⟩) hmax h3 v hv w hL_
          | range =>
            rw [hv] at h
            obtain ⟨rfl, rfl⟩ := by simpa using h
            by_cases hs : a0.size ≤ 1
            · exact number_range_a a0 h0 hs hmax h3 hv w hL_
            · exact number_range_b a0 h0 (by omega) (by simpa using fun h => hz ⟨by omega, h⟩) hmax h3 hv w hL_
          | _ =>
            rw [hv] at h
            cases h
  · rw [if_neg hmax] at h
    cases h
end Go.Proofs.YtepnbnpgifpfbaaDoor.G
namespace Go.Proofs.YtepnbnpgifpfbaaDoor.G
open Go.RowKit Go.Proofs.YtepnbnpgifpfbaaDoorW.PrintWords Go.Proofs.YtepnbnpgifpfbaaDoorW.PrintLast Go.Proofs.YtepnbnpgifpfbaaDoorW.PrintMore
attribute [local go_sem] max2_int min2_int max_two min_two max_three min_three max_four min_four
set_option linter.unusedVariables false
set_option linter.unusedSimpArgs false
def lex_text.f (a0 : ByteArray) : Option (Int × Int × Int × Int × Int × Int × ByteArray × Int × Int × Int) := if a0.toList = ([] : List UInt8) then (some (0, 0, 0, 0, 0, 0, (⟨#[]⟩ : ByteArray), 0, 0, 3)) else ((lex_Utf8.f a0).bind fun t158 => (if t158 = true then (some (2, 0, 0, 0, 0, 0, a0, 0, 0, 0)) else (some (0, 0, 0, 0, 0, 0, (⟨#[]⟩ : ByteArray), 0, 0, 3))))
set_option maxHeartbeats 8000000 in
set_option maxRecDepth 100000 in
theorem lex_text.calls (a0 : ByteArray) (r1 : Int) (r2 : Int) (r3 : Int) (r4 : Int) (r5 : Int) (r6 : Int) (r7 : ByteArray) (r8 : Int) (r9 : Int) (r10 : Int) (w : World) (hL_ : LaidW w) (h : lex_text.f a0 = some (r1, r2, r3, r4, r5, r6, r7, r8, r9, r10)) :
    Calls Tryd.prog 38 #[.string a0] w fun e w' => e = .returned (.tuple #[.agg #[.int .i64 r1, .int .i64 r2, .int .u64 r3, .int .u64 r4, .int .u64 r5, .int .u64 r6, .string r7, .int .i64 r8, .int .i64 r9], .int .i64 r10]) ∧ Below w.heap.size w w' := by
  have hu35 := Tryd.underlying35
  have HB := Aside0.mk (Below.refl w.heap.size w)
  have H : (if a0.toList = ([] : List UInt8) then (some (0, 0, 0, 0, 0, 0, (⟨#[]⟩ : ByteArray), 0, 0, 3)) else ((lex_Utf8.f a0).bind fun t158 => (if t158 = true then (some (2, 0, 0, 0, 0, 0, a0, 0, 0, 0)) else (some (0, 0, 0, 0, 0, 0, (⟨#[]⟩ : ByteArray), 0, 0, 3))))) = some (r1, r2, r3, r4, r5, r6, r7, r8, r9, r10) := h
  clear h
  by_cases c2 : a0.toList = ([] : List UInt8)
  case pos =>
    rw [if_pos c2] at H
    have c2b0 : (a0.toList == ([] : List UInt8)) = true := beq_iff_eq.mpr c2
    have c2b1 : (a0.toList != ([] : List UInt8)) = false := bne_eq_false_iff_eq.mpr c2
    clear c2
    simp only [Option.some.injEq, Prod.mk.injEq] at H
    obtain ⟨rfl, rfl, rfl, rfl, rfl, rfl, rfl, rfl, rfl, rfl⟩ := H
    go_enter Tryd.func38, Tryd.ntmps38
    go_wp2_with (first | ((with_reducible refine gate_dst (N := 2) rfl ?_); refine box_event ?hg (N := 2) ?hd (cs := #[.int .i64 0, .int .i64 0, .int .u64 0, .int .u64 0, .int .u64 0, .int .u64 0, .string (⟨#[]⟩ : ByteArray), .int .i64 0, .int .i64 0]) (t := 35) ?hr ?_; (case hd => rfl); (case hg => rfl); (case hr => first | (go_simp; done) | (go_simp; rfl)); intro gb157 hg w3 hbox hb; have n0_ := Aside0.mk (below_step (belx HB) hb); have n1_ := Aside0.mk (hbox); have n2_ := Aside0.mk ((by rw [hg]; exact (below_size (belx HB)) : w.heap.size ≤ gb157)); have n3_ := Aside0.mk ((by rw [hg]; exact (below_size (belx HB)) : w.heap.size ≤ gb157)); clear HB; have HB := n0_; have BK157 := n1_; have GW157 := n2_; have GE157 := n3_; clear n0_ n1_ n2_ n3_; clear hb hbox hg; obtain ⟨hcz4_0, hcz4_1, hcz4_2, hcz4_3, hcz4_4, hcz4_5, hcz4_6, hcz4_7, hcz4_8, hfz4_0, hfz4_1, hfz4_2, hfz4_3, hfz4_4, hfz4_5, hfz4_6, hfz4_7, hfz4_8⟩ := cells9 BK157.out) | ((with_reducible refine gate_store (t := 35) (p := 2) rfl ?_); refine store_event (t := 35) (p := 2) (v := ?vo_w5) (w1 := (((((((((w3.setCell ⟨gb157, 0, none⟩ (.int .i64 0)).setCell ⟨gb157, 1, none⟩ (.int .i64 0)).setCell ⟨gb157, 2, none⟩ (.int .u64 0)).setCell ⟨gb157, 3, none⟩ (.int .u64 0)).setCell ⟨gb157, 4, none⟩ (.int .u64 0)).setCell ⟨gb157, 5, none⟩ (.int .u64 0)).setCell ⟨gb157, 6, none⟩ (.string (⟨#[]⟩ : ByteArray))).setCell ⟨gb157, 7, none⟩ (.int .i64 0)).setCell ⟨gb157, 8, none⟩ (.int .i64 0))) ?hg ?ho ?hn ?hr ?_; (case ho => rfl); (case hg => rfl); (case hn => rfl); (case hr => first | (go_simp; done) | (go_simp; rfl)); intro w5 hw; have n0_ : Aside0 (w5.heap[gb157]? = some (.cells #[.int .i64 0, .int .i64 0, .int .u64 0, .int .u64 0, .int .u64 0, .int .u64 0, .string (⟨#[]⟩ : ByteArray), .int .i64 0, .int .i64 0] 35 (0, 0))) := ⟨(by rw [hw]; exact (by (with_reducible repeat (first | refine blk_drewN ?_ _ | refine blk_drew ?_ | refine blk_alloc ?_ _)); exact put9h BK157.out))⟩; have n1_ : Aside0 (Below w.heap.size w w5) := ⟨(by rw [hw]; exact (belx1 HB GE157))⟩; clear hw; clear BK157; clear HB; have BK157 := n0_; have HB := n1_; clear n0_ n1_))
    refine bodyPost_ret (results_ct rfl _ _ gb157 35 #[.int .i64 0, .int .i64 0, .int .u64 0, .int .u64 0, .int .u64 0, .int .u64 0, .string (⟨#[]⟩ : ByteArray), .int .i64 0, .int .i64 0] (0, 0) _ rfl (bkx BK157) Tryd.underlying35 rfl (by kernel_rfl)) rfl ?_
    exact ⟨by first | rfl | (simp [errW_none, errW_some] <;> rfl) | (simp [*, errW_none, errW_some] <;> rfl), belx1 HB GE157⟩
  rw [if_neg c2] at H
  have c2b0 : (a0.toList == ([] : List UInt8)) = false := beq_eq_false_iff_ne.mpr c2
  have c2b1 : (a0.toList != ([] : List UInt8)) = true := bne_iff_ne.mpr c2
  replace H := Option.bind_eq_some_iff.mp H
  obtain ⟨t158, A60, H⟩ := H
  replace H : (if t158 = true then (some (2, 0, 0, 0, 0, 0, a0, 0, 0, 0)) else (some (0, 0, 0, 0, 0, 0, (⟨#[]⟩ : ByteArray), 0, 0, 3))) = some (r1, r2, r3, r4, r5, r6, r7, r8, r9, r10) := H
  have A6 := Aside0.mk A60
  clear A60
  by_cases c7 : t158 = true
  case pos =>
    subst c7
    have H1 : (some (2, 0, 0, 0, 0, 0, a0, 0, 0, 0)) = some (r1, r2, r3, r4, r5, r6, r7, r8, r9, r10) := by rw [if_pos rfl] at H; exact H
    clear H
    have H := H1
    clear H1
    simp only [Option.some.injEq, Prod.mk.injEq] at H
    obtain ⟨rfl, rfl, rfl, rfl, rfl, rfl, rfl, rfl, rfl, rfl⟩ := H
    go_enter Tryd.func38, Tryd.ntmps38
    go_wp2_with (first | ((with_reducible refine gate_dst (N := 2) rfl ?_); refine box_event ?hg (N := 2) ?hd (cs := #[.int .i64 0, .int .i64 0, .int .u64 0, .int .u64 0, .int .u64 0, .int .u64 0, .string (⟨#[]⟩ : ByteArray), .int .i64 0, .int .i64 0]) (t := 35) ?hr ?_; (case hd => rfl); (case hg => rfl); (case hr => first | (go_simp; done) | (go_simp; rfl)); intro gb157 hg w8 hbox hb; have n0_ := Aside0.mk (below_step (belx HB) hb); have n1_ := Aside0.mk (hbox); have n2_ := Aside0.mk ((by rw [hg]; exact (below_size (belx HB)) : w.heap.size ≤ gb157)); have n3_ := Aside0.mk ((by rw [hg]; exact (below_size (belx HB)) : w.heap.size ≤ gb157)); clear HB; have HB := n0_; have BK157 := n1_; have GW157 := n2_; have GE157 := n3_; clear n0_ n1_ n2_ n3_; clear hb hbox hg) | (go_at_call 14; (with_reducible refine (lex_Utf8.calls a0 true _ ?side1 A6.out).mono ?_); (case side1 => exact (by repeat (first | exact hL_ | apply LaidW.drewN | apply LaidW.drew | refine LaidW.below hL_ (belx1 HB GE157)))); rintro e w9 ⟨rfl, hb⟩; have n0_ := Aside0.mk (blk_below (g := gb157) (o := .cells #[.int .i64 0, .int .i64 0, .int .u64 0, .int .u64 0, .int .u64 0, .int .u64 0, .string (⟨#[]⟩ : ByteArray), .int .i64 0, .int .i64 0] 35 (0, 0)) (bkx BK157) hb); have n1_ := Aside0.mk (below_step (belx1 HB GE157) hb); clear BK157; clear HB; have BK157 := n0_; have HB := n1_; clear n0_ n1_; (try clear hb); (try clear hb2); (try clear hk); (try clear hi); obtain ⟨hcz10_0, hcz10_1, hcz10_2, hcz10_3, hcz10_4, hcz10_5, hcz10_6, hcz10_7, hcz10_8, hfz10_0, hfz10_1, hfz10_2, hfz10_3, hfz10_4, hfz10_5, hfz10_6, hfz10_7, hfz10_8⟩ := cells9 BK157.out) | ((with_reducible refine gate_store (t := 35) (p := 2) rfl ?_); refine store_event (t := 35) (p := 2) (v := ?vo_w11) (w1 := (((((((((w9.setCell ⟨gb157, 0, none⟩ (.int .i64 2)).setCell ⟨gb157, 1, none⟩ (.int .i64 0)).setCell ⟨gb157, 2, none⟩ (.int .u64 0)).setCell ⟨gb157, 3, none⟩ (.int .u64 0)).setCell ⟨gb157, 4, none⟩ (.int .u64 0)).setCell ⟨gb157, 5, none⟩ (.int .u64 0)).setCell ⟨gb157, 6, none⟩ (.string a0)).setCell ⟨gb157, 7, none⟩ (.int .i64 0)).setCell ⟨gb157, 8, none⟩ (.int .i64 0))) ?hg ?ho ?hn ?hr ?_; (case ho => rfl); (case hg => rfl); (case hn => rfl); (case hr => first | (go_simp; done) | (go_simp; rfl)); intro w11 hw; have n0_ : Aside0 (w11.heap[gb157]? = some (.cells #[.int .i64 2, .int .i64 0, .int .u64 0, .int .u64 0, .int .u64 0, .int .u64 0, .string a0, .int .i64 0, .int .i64 0] 35 (0, 0))) := ⟨(by rw [hw]; exact (by (with_reducible repeat (first | refine blk_drewN ?_ _ | refine blk_drew ?_ | refine blk_alloc ?_ _)); exact put9h BK157.out))⟩; have n1_ : Aside0 (Below w.heap.size w w11) := ⟨(by rw [hw]; exact (belx1 HB GE157))⟩; clear hw; clear BK157; clear HB; have BK157 := n0_; have HB := n1_; clear n0_ n1_))
    refine bodyPost_ret (results_ct rfl _ _ gb157 35 #[.int .i64 2, .int .i64 0, .int .u64 0, .int .u64 0, .int .u64 0, .int .u64 0, .string a0, .int .i64 0, .int .i64 0] (0, 0) _ rfl (bkx BK157) Tryd.underlying35 rfl (by kernel_rfl)) rfl ?_
    exact ⟨by first | rfl | (simp [errW_none, errW_some] <;> rfl) | (simp [*, errW_none, errW_some] <;> rfl), belx1 HB GE157⟩
  replace c7 := Bool.eq_false_iff.mpr c7
  subst c7
  have H1 : (some (0, 0, 0, 0, 0, 0, (⟨#[]⟩ : ByteArray), 0, 0, 3)) = some (r1, r2, r3, r4, r5, r6, r7, r8, r9, r10) := by rw [if_neg (show ¬ (false = true) by decide)] at H; exact H
  clear H
  have H := H1
  clear H1
  simp only [Option.some.injEq, Prod.mk.injEq] at H
  obtain ⟨rfl, rfl, rfl, rfl, rfl, rfl, rfl, rfl, rfl, rfl⟩ := H
  go_enter Tryd.func38, Tryd.ntmps38
  go_wp2_with (first | ((with_reducible refine gate_dst (N := 2) rfl ?_); refine box_event ?hg (N := 2) ?hd (cs := #[.int .i64 0, .int .i64 0, .int .u64 0, .int .u64 0, .int .u64 0, .int .u64 0, .string (⟨#[]⟩ : ByteArray), .int .i64 0, .int .i64 0]) (t := 35) ?hr ?_; (case hd => rfl); (case hg => rfl); (case hr => first | (go_simp; done) | (go_simp; rfl)); intro gb157 hg w12 hbox hb; have n0_ := Aside0.mk (below_step (belx HB) hb); have n1_ := Aside0.mk (hbox); have n2_ := Aside0.mk ((by rw [hg]; exact (below_size (belx HB)) : w.heap.size ≤ gb157)); have n3_ := Aside0.mk ((by rw [hg]; exact (below_size (belx HB)) : w.heap.size ≤ gb157)); clear HB; have HB := n0_; have BK157 := n1_; have GW157 := n2_; have GE157 := n3_; clear n0_ n1_ n2_ n3_; clear hb hbox hg) | (go_at_call 14; (with_reducible refine (lex_Utf8.calls a0 false _ ?side1 A6.out).mono ?_); (case side1 => exact (by repeat (first | exact hL_ | apply LaidW.drewN | apply LaidW.drew | refine LaidW.below hL_ (belx1 HB GE157)))); rintro e w13 ⟨rfl, hb⟩; have n0_ := Aside0.mk (blk_below (g := gb157) (o := .cells #[.int .i64 0, .int .i64 0, .int .u64 0, .int .u64 0, .int .u64 0, .int .u64 0, .string (⟨#[]⟩ : ByteArray), .int .i64 0, .int .i64 0] 35 (0, 0)) (bkx BK157) hb); have n1_ := Aside0.mk (below_step (belx1 HB GE157) hb); clear BK157; clear HB; have BK157 := n0_; have HB := n1_; clear n0_ n1_; (try clear hb); (try clear hb2); (try clear hk); (try clear hi); obtain ⟨hcz14_0, hcz14_1, hcz14_2, hcz14_3, hcz14_4, hcz14_5, hcz14_6, hcz14_7, hcz14_8, hfz14_0, hfz14_1, hfz14_2, hfz14_3, hfz14_4, hfz14_5, hfz14_6, hfz14_7, hfz14_8⟩ := cells9 BK157.out) | ((with_reducible refine gate_store (t := 35) (p := 2) rfl ?_); refine store_event (t := 35) (p := 2) (v := ?vo_w15) (w1 := (((((((((w13.setCell ⟨gb157, 0, none⟩ (.int .i64 0)).setCell ⟨gb157, 1, none⟩ (.int .i64 0)).setCell ⟨gb157, 2, none⟩ (.int .u64 0)).setCell ⟨gb157, 3, none⟩ (.int .u64 0)).setCell ⟨gb157, 4, none⟩ (.int .u64 0)).setCell ⟨gb157, 5, none⟩ (.int .u64 0)).setCell ⟨gb157, 6, none⟩ (.string (⟨#[]⟩ : ByteArray))).setCell ⟨gb157, 7, none⟩ (.int .i64 0)).setCell ⟨gb157, 8, none⟩ (.int .i64 0))) ?hg ?ho ?hn ?hr ?_; (case ho => rfl); (case hg => rfl); (case hn => rfl); (case hr => first | (go_simp; done) | (go_simp; rfl)); intro w15 hw; have n0_ : Aside0 (w15.heap[gb157]? = some (.cells #[.int .i64 0, .int .i64 0, .int .u64 0, .int .u64 0, .int .u64 0, .int .u64 0, .string (⟨#[]⟩ : ByteArray), .int .i64 0, .int .i64 0] 35 (0, 0))) := ⟨(by rw [hw]; exact (by (with_reducible repeat (first | refine blk_drewN ?_ _ | refine blk_drew ?_ | refine blk_alloc ?_ _)); exact put9h BK157.out))⟩; have n1_ : Aside0 (Below w.heap.size w w15) := ⟨(by rw [hw]; exact (belx1 HB GE157))⟩; clear hw; clear BK157; clear HB; have BK157 := n0_; have HB := n1_; clear n0_ n1_))
  refine bodyPost_ret (results_ct rfl _ _ gb157 35 #[.int .i64 0, .int .i64 0, .int .u64 0, .int .u64 0, .int .u64 0, .int .u64 0, .string (⟨#[]⟩ : ByteArray), .int .i64 0, .int .i64 0] (0, 0) _ rfl (bkx BK157) Tryd.underlying35 rfl (by kernel_rfl)) rfl ?_
  exact ⟨by first | rfl | (simp [errW_none, errW_some] <;> rfl) | (simp [*, errW_none, errW_some] <;> rfl), belx1 HB GE157⟩
end Go.Proofs.YtepnbnpgifpfbaaDoor.G
namespace Go.Proofs.YtepnbnpgifpfbaaDoor.G
open Go.RowKit Go.Proofs.YtepnbnpgifpfbaaDoorW.PrintWords Go.Proofs.YtepnbnpgifpfbaaDoorW.PrintLast Go.Proofs.YtepnbnpgifpfbaaDoorW.PrintMore
attribute [local go_sem] max2_int min2_int max_two min_two max_three min_three max_four min_four
set_option linter.unusedVariables false
set_option linter.unusedSimpArgs false
def lex_repeat.j0 : Nat → Int → Int → Bool → Option (Int × Int × Int × Int × Int × Int × ByteArray × Int × Int × Int)
  | 0, _, _, _ => none
  | k + 1, x7, x9, x27 => if x27 = true then (some (0, 0, 0, 0, 0, 0, (⟨#[]⟩ : ByteArray), 0, 0, 4)) else (if x9 > 255 then (some (0, 0, 0, 0, 0, 0, (⟨#[]⟩ : ByteArray), 0, 0, 5)) else (if x7 > x9 then (some (0, 0, 0, 0, 0, 0, (⟨#[]⟩ : ByteArray), 0, 0, 5)) else (some (7, 0, 0, 0, 0, 0, (⟨#[]⟩ : ByteArray), x7, x9, 0))))
def lex_repeat.f (k : Nat) (a0 : ByteArray) : Option (Int × Int × Int × Int × Int × Int × ByteArray × Int × Int × Int) := (strings_Cut.f a0 (⟨#[44]⟩ : ByteArray)).bind fun bt160 => ((lex_number.f bt160.1).bind fun bt163 => ((lex_number.f bt160.2.1).bind fun bt165 => (if bt163.2 = true then (lex_repeat.j0 k bt163.1 bt165.1 (!bt165.2)) else (lex_repeat.j0 k bt163.1 bt165.1 true))))
set_option maxHeartbeats 8000000 in
set_option maxRecDepth 100000 in
theorem lex_repeat.calls (k : Nat) (a0 : ByteArray) (r1 : Int) (r2 : Int) (r3 : Int) (r4 : Int) (r5 : Int) (r6 : Int) (r7 : ByteArray) (r8 : Int) (r9 : Int) (r10 : Int) (w : World) (hL_ : LaidW w) (h : lex_repeat.f k a0 = some (r1, r2, r3, r4, r5, r6, r7, r8, r9, r10)) :
    Calls Tryd.prog 39 #[.string a0] w fun e w' => e = .returned (.tuple #[.agg #[.int .i64 r1, .int .i64 r2, .int .u64 r3, .int .u64 r4, .int .u64 r5, .int .u64 r6, .string r7, .int .i64 r8, .int .i64 r9], .int .i64 r10]) ∧ Below w.heap.size w w' := by
  have hu35 := Tryd.underlying35
  have HB := Aside0.mk (Below.refl w.heap.size w)
  have H : ((strings_Cut.f a0 (⟨#[44]⟩ : ByteArray)).bind fun bt160 => ((lex_number.f bt160.1).bind fun bt163 => ((lex_number.f bt160.2.1).bind fun bt165 => (if bt163.2 = true then (lex_repeat.j0 k bt163.1 bt165.1 (!bt165.2)) else (lex_repeat.j0 k bt163.1 bt165.1 true))))) = some (r1, r2, r3, r4, r5, r6, r7, r8, r9, r10) := h
  clear h
  replace H := Option.bind_eq_some_iff.mp H
  obtain ⟨⟨t160, t161, t162⟩, A20, H⟩ := H
  replace H : ((lex_number.f t160).bind fun bt163 => ((lex_number.f t161).bind fun bt165 => (if bt163.2 = true then (lex_repeat.j0 k bt163.1 bt165.1 (!bt165.2)) else (lex_repeat.j0 k bt163.1 bt165.1 true)))) = some (r1, r2, r3, r4, r5, r6, r7, r8, r9, r10) := H
  have A2 := Aside0.mk A20
  clear A20
  replace H := Option.bind_eq_some_iff.mp H
  obtain ⟨⟨t163, t164⟩, A30, H⟩ := H
  replace H : ((lex_number.f t161).bind fun bt165 => (if t164 = true then (lex_repeat.j0 k t163 bt165.1 (!bt165.2)) else (lex_repeat.j0 k t163 bt165.1 true))) = some (r1, r2, r3, r4, r5, r6, r7, r8, r9, r10) := H
  have A3 := Aside0.mk A30
  clear A30
  replace H := Option.bind_eq_some_iff.mp H
  obtain ⟨⟨t165, t166⟩, A40, H⟩ := H
  replace H : (if t164 = true then (lex_repeat.j0 k t163 t165 (!t166)) else (lex_repeat.j0 k t163 t165 true)) = some (r1, r2, r3, r4, r5, r6, r7, r8, r9, r10) := H
  have A4 := Aside0.mk A40
  clear A40
  have HC5 := Aside0.mk H
  clear H
  go_enter Tryd.func39, Tryd.ntmps39
  go_upto_region 4 with (first | ((with_reducible refine gate_dst (N := 2) rfl ?_); refine box_event ?hg (N := 2) ?hd (cs := #[.int .i64 0, .int .i64 0, .int .u64 0, .int .u64 0, .int .u64 0, .int .u64 0, .string (⟨#[]⟩ : ByteArray), .int .i64 0, .int .i64 0]) (t := 35) ?hr ?_; (case hd => rfl); (case hg => rfl); (case hr => first | (go_simp; done) | (go_simp; rfl)); intro gb159 hg w6 hbox hb; have n0_ := Aside0.mk (below_step (belx HB) hb); have n1_ := Aside0.mk (hbox); have n2_ := Aside0.mk ((by rw [hg]; exact (below_size (belx HB)) : w.heap.size ≤ gb159)); have n3_ := Aside0.mk ((by rw [hg]; exact (below_size (belx HB)) : w.heap.size ≤ gb159)); clear HB; have HB := n0_; have BK159 := n1_; have GW159 := n2_; have GE159 := n3_; clear n0_ n1_ n2_ n3_; clear hb hbox hg) | ((with_reducible refine gate_callee (f := 46) rfl ?_); refine goesL_ (some 13) rfl rfl Tryd.func46 (by kernel_rfl) rfl #[.string a0, .string (⟨#[44]⟩ : ByteArray)] rfl (by (try simp only [List.map_toArray, List.map_cons, List.map_nil]); first | done | rfl | (simp only [List.length_drop, List.length_take]; rfl)) ?_; (with_reducible refine (strings_Cut.calls a0 (⟨#[44]⟩ : ByteArray) t160 t161 t162 _ ?side1 A2.out).mono ?_); (case side1 => exact (by repeat (first | exact hL_ | apply LaidW.drewN | apply LaidW.drew | refine LaidW.below hL_ (belx1 HB GE159)))); rintro e w' ⟨rfl, ⟨nd, rfl⟩⟩; refine ⟨_, rfl, ?_⟩) | ((with_reducible refine gate_callee (f := 47) rfl ?_); refine goesL_ (some 19) rfl rfl Tryd.func47 (by kernel_rfl) rfl #[.string t160] rfl (by (try simp only [List.map_toArray, List.map_cons, List.map_nil]); first | done | rfl | (simp only [List.length_drop, List.length_take]; rfl)) ?_; (with_reducible refine (lex_number.calls t160 t163 t164 _ ?side1 A3.out).mono ?_); (case side1 => exact (by repeat (first | exact hL_ | apply LaidW.drewN | apply LaidW.drew | refine LaidW.below hL_ (belx1 HB GE159)))); rintro e w7 ⟨rfl, hb⟩; refine ⟨_, rfl, ?_⟩; have n0_ := Aside0.mk (blk_below (g := gb159) (o := .cells #[.int .i64 0, .int .i64 0, .int .u64 0, .int .u64 0, .int .u64 0, .int .u64 0, .string (⟨#[]⟩ : ByteArray), .int .i64 0, .int .i64 0] 35 (0, 0)) (bkx BK159) hb); have n1_ := Aside0.mk (below_step (belx1 HB GE159) hb); clear BK159; clear HB; have BK159 := n0_; have HB := n1_; clear n0_ n1_; (try clear hb); (try clear hb2); (try clear hk); (try clear hi)) | ((with_reducible refine gate_callee (f := 47) rfl ?_); refine goesL_ (some 24) rfl rfl Tryd.func47 (by kernel_rfl) rfl #[.string t161] rfl (by (try simp only [List.map_toArray, List.map_cons, List.map_nil]); first | done | rfl | (simp only [List.length_drop, List.length_take]; rfl)) ?_; (with_reducible refine (lex_number.calls t161 t165 t166 _ ?side1 A4.out).mono ?_); (case side1 => exact (by repeat (first | exact hL_ | apply LaidW.drewN | apply LaidW.drew | refine LaidW.below hL_ (belx1 HB GE159)))); rintro e w8 ⟨rfl, hb⟩; refine ⟨_, rfl, ?_⟩; have n0_ := Aside0.mk (blk_below (g := gb159) (o := .cells #[.int .i64 0, .int .i64 0, .int .u64 0, .int .u64 0, .int .u64 0, .int .u64 0, .string (⟨#[]⟩ : ByteArray), .int .i64 0, .int .i64 0] 35 (0, 0)) (bkx BK159) hb); have n1_ := Aside0.mk (below_step (belx1 HB GE159) hb); clear BK159; clear HB; have BK159 := n0_; have HB := n1_; clear n0_ n1_; (try clear hb); (try clear hb2); (try clear hk); (try clear hi)))
  (try simp only [Act.put, List.setIfInBounds_toArray, List.set_cons_zero, List.set_cons_succ])
  go_cut [27] (fun v27 wc => ∃ (kq : Nat) (x27_4 : Bool), v27 = .bool x27_4 ∧ Aside0 (lex_repeat.j0 kq t163 t165 x27_4 = some (r1, r2, r3, r4, r5, r6, r7, r8, r9, r10)) ∧ Aside0 (kq ≤ k) ∧ Aside0 (wc.heap[gb159]? = some (.cells #[.int .i64 0, .int .i64 0, .int .u64 0, .int .u64 0, .int .u64 0, .int .u64 0, .string (⟨#[]⟩ : ByteArray), .int .i64 0, .int .i64 0] 35 (0, 0))) ∧ Aside0 (Below w.heap.size w wc))
  case first =>
    have H := HC5.out
    clear HC5
    by_cases c9 : t164 = true
    · subst c9
      have H1 : (lex_repeat.j0 k t163 t165 (!t166)) = some (r1, r2, r3, r4, r5, r6, r7, r8, r9, r10) := by rw [if_pos rfl] at H; exact H
      clear H
      have H := H1
      clear H1
      have H' := Aside0.mk H
      clear H
      go_wp2
      go_meet
      case rel => exact ⟨_, (!t166), (by first | rfl | (simp; done) | (simp [*]; done) | exact congrArg (Value.int .i64) (by unfold wrap64; omega)), (by first | exact H' | (subst_vars; exact H')), ⟨by first | omega | exact Nat.le_refl _⟩, ⟨bkx BK159⟩, ⟨belx1 HB GE159⟩⟩
    · replace c9 := Bool.eq_false_iff.mpr c9
      subst c9
      have H1 : (lex_repeat.j0 k t163 t165 true) = some (r1, r2, r3, r4, r5, r6, r7, r8, r9, r10) := by rw [if_neg (show ¬ (false = true) by decide)] at H; exact H
      clear H
      have H := H1
      clear H1
      have H' := Aside0.mk H
      clear H
      go_wp2
      go_meet
      case rel => exact ⟨_, (true), (by first | rfl | (simp; done) | (simp [*]; done) | exact congrArg (Value.int .i64) (by unfold wrap64; omega)), (by first | exact H' | (subst_vars; exact H')), ⟨by first | omega | exact Nat.le_refl _⟩, ⟨bkx BK159⟩, ⟨belx1 HB GE159⟩⟩
  case rest =>
    clear HC5
    obtain ⟨kq, x27_4, rfl, HA, HJ4, BK159, HB⟩ := hcut
    cases kq with
    | zero => exact absurd HA.out (by simp [lex_repeat.j0])
    | succ kj4 =>
      have H := HA.out
      clear HA
      simp only [lex_repeat.j0] at H
      by_cases c10 : x27_4 = true
      case pos =>
        subst c10
        have H1 : (some (0, 0, 0, 0, 0, 0, (⟨#[]⟩ : ByteArray), 0, 0, 4)) = some (r1, r2, r3, r4, r5, r6, r7, r8, r9, r10) := by rw [if_pos rfl] at H; exact H
        clear H
        have H := H1
        clear H1
        simp only [Option.some.injEq, Prod.mk.injEq] at H
        obtain ⟨rfl, rfl, rfl, rfl, rfl, rfl, rfl, rfl, rfl, rfl⟩ := H
        have hcz11_0 : wc.cell? ⟨gb159, 0, none⟩ = some (.int .i64 0) := (blk_cell BK159.out 0).trans rfl
        have hcz11_1 : wc.cell? ⟨gb159, 1, none⟩ = some (.int .i64 0) := (blk_cell BK159.out 1).trans rfl
        have hcz11_2 : wc.cell? ⟨gb159, 2, none⟩ = some (.int .u64 0) := (blk_cell BK159.out 2).trans rfl
        have hcz11_3 : wc.cell? ⟨gb159, 3, none⟩ = some (.int .u64 0) := (blk_cell BK159.out 3).trans rfl
        have hcz11_4 : wc.cell? ⟨gb159, 4, none⟩ = some (.int .u64 0) := (blk_cell BK159.out 4).trans rfl
        have hcz11_5 : wc.cell? ⟨gb159, 5, none⟩ = some (.int .u64 0) := (blk_cell BK159.out 5).trans rfl
        have hcz11_6 : wc.cell? ⟨gb159, 6, none⟩ = some (.string (⟨#[]⟩ : ByteArray)) := (blk_cell BK159.out 6).trans rfl
        have hcz11_7 : wc.cell? ⟨gb159, 7, none⟩ = some (.int .i64 0) := (blk_cell BK159.out 7).trans rfl
        have hcz11_8 : wc.cell? ⟨gb159, 8, none⟩ = some (.int .i64 0) := (blk_cell BK159.out 8).trans rfl
        have hfz11_0 := blk_frozen BK159.out 0
        have hfz11_1 := blk_frozen BK159.out 1
        have hfz11_2 := blk_frozen BK159.out 2
        have hfz11_3 := blk_frozen BK159.out 3
        have hfz11_4 := blk_frozen BK159.out 4
        have hfz11_5 := blk_frozen BK159.out 5
        have hfz11_6 := blk_frozen BK159.out 6
        have hfz11_7 := blk_frozen BK159.out 7
        have hfz11_8 := blk_frozen BK159.out 8
        go_wp2_with (first | ((with_reducible refine gate_store (t := 35) (p := 2) rfl ?_); refine store_event (t := 35) (p := 2) (v := ?vo_w12) (w1 := (((((((((wc.setCell ⟨gb159, 0, none⟩ (.int .i64 0)).setCell ⟨gb159, 1, none⟩ (.int .i64 0)).setCell ⟨gb159, 2, none⟩ (.int .u64 0)).setCell ⟨gb159, 3, none⟩ (.int .u64 0)).setCell ⟨gb159, 4, none⟩ (.int .u64 0)).setCell ⟨gb159, 5, none⟩ (.int .u64 0)).setCell ⟨gb159, 6, none⟩ (.string (⟨#[]⟩ : ByteArray))).setCell ⟨gb159, 7, none⟩ (.int .i64 0)).setCell ⟨gb159, 8, none⟩ (.int .i64 0))) ?hg ?ho ?hn ?hr ?_; (case ho => rfl); (case hg => rfl); (case hn => rfl); (case hr => first | (go_simp; done) | (go_simp; rfl)); intro w12 hw; have n0_ : Aside0 (w12.heap[gb159]? = some (.cells #[.int .i64 0, .int .i64 0, .int .u64 0, .int .u64 0, .int .u64 0, .int .u64 0, .string (⟨#[]⟩ : ByteArray), .int .i64 0, .int .i64 0] 35 (0, 0))) := ⟨(by rw [hw]; exact (by (with_reducible repeat (first | refine blk_drewN ?_ _ | refine blk_drew ?_ | refine blk_alloc ?_ _)); exact put9h BK159.out))⟩; have n1_ : Aside0 (Below w.heap.size w w12) := ⟨(by rw [hw]; exact (belx1 HB GE159))⟩; clear hw; clear BK159; clear HB; have BK159 := n0_; have HB := n1_; clear n0_ n1_))
        refine bodyPost_ret (results_ct rfl _ _ gb159 35 #[.int .i64 0, .int .i64 0, .int .u64 0, .int .u64 0, .int .u64 0, .int .u64 0, .string (⟨#[]⟩ : ByteArray), .int .i64 0, .int .i64 0] (0, 0) _ rfl (bkx BK159) Tryd.underlying35 rfl (by kernel_rfl)) rfl ?_
        exact ⟨by first | rfl | (simp [errW_none, errW_some] <;> rfl) | (simp [*, errW_none, errW_some] <;> rfl), belx1 HB GE159⟩
      replace c10 := Bool.eq_false_iff.mpr c10
      subst c10
      have H1 : (if t165 > 255 then (some (0, 0, 0, 0, 0, 0, (⟨#[]⟩ : ByteArray), 0, 0, 5)) else (if t163 > t165 then (some (0, 0, 0, 0, 0, 0, (⟨#[]⟩ : ByteArray), 0, 0, 5)) else (some (7, 0, 0, 0, 0, 0, (⟨#[]⟩ : ByteArray), t163, t165, 0)))) = some (r1, r2, r3, r4, r5, r6, r7, r8, r9, r10) := by rw [if_neg (show ¬ (false = true) by decide)] at H; exact H
      clear H
      have H := H1
      clear H1
      by_cases c13 : t165 > 255
      case pos =>
        rw [if_pos c13] at H
        have c13b0 : decide (255 < t165) = true := decide_eq_true c13
        clear c13
        simp only [Option.some.injEq, Prod.mk.injEq] at H
        obtain ⟨rfl, rfl, rfl, rfl, rfl, rfl, rfl, rfl, rfl, rfl⟩ := H
        have hcz14_0 : wc.cell? ⟨gb159, 0, none⟩ = some (.int .i64 0) := (blk_cell BK159.out 0).trans rfl
        have hcz14_1 : wc.cell? ⟨gb159, 1, none⟩ = some (.int .i64 0) := (blk_cell BK159.out 1).trans rfl
        have hcz14_2 : wc.cell? ⟨gb159, 2, none⟩ = some (.int .u64 0) := (blk_cell BK159.out 2).trans rfl
        have hcz14_3 : wc.cell? ⟨gb159, 3, none⟩ = some (.int .u64 0) := (blk_cell BK159.out 3).trans rfl
        have hcz14_4 : wc.cell? ⟨gb159, 4, none⟩ = some (.int .u64 0) := (blk_cell BK159.out 4).trans rfl
        have hcz14_5 : wc.cell? ⟨gb159, 5, none⟩ = some (.int .u64 0) := (blk_cell BK159.out 5).trans rfl
        have hcz14_6 : wc.cell? ⟨gb159, 6, none⟩ = some (.string (⟨#[]⟩ : ByteArray)) := (blk_cell BK159.out 6).trans rfl
        have hcz14_7 : wc.cell? ⟨gb159, 7, none⟩ = some (.int .i64 0) := (blk_cell BK159.out 7).trans rfl
        have hcz14_8 : wc.cell? ⟨gb159, 8, none⟩ = some (.int .i64 0) := (blk_cell BK159.out 8).trans rfl
        have hfz14_0 := blk_frozen BK159.out 0
        have hfz14_1 := blk_frozen BK159.out 1
        have hfz14_2 := blk_frozen BK159.out 2
        have hfz14_3 := blk_frozen BK159.out 3
        have hfz14_4 := blk_frozen BK159.out 4
        have hfz14_5 := blk_frozen BK159.out 5
        have hfz14_6 := blk_frozen BK159.out 6
        have hfz14_7 := blk_frozen BK159.out 7
        have hfz14_8 := blk_frozen BK159.out 8
        go_wp2_with (first | ((with_reducible refine gate_store (t := 35) (p := 2) rfl ?_); refine store_event (t := 35) (p := 2) (v := ?vo_w15) (w1 := (((((((((wc.setCell ⟨gb159, 0, none⟩ (.int .i64 0)).setCell ⟨gb159, 1, none⟩ (.int .i64 0)).setCell ⟨gb159, 2, none⟩ (.int .u64 0)).setCell ⟨gb159, 3, none⟩ (.int .u64 0)).setCell ⟨gb159, 4, none⟩ (.int .u64 0)).setCell ⟨gb159, 5, none⟩ (.int .u64 0)).setCell ⟨gb159, 6, none⟩ (.string (⟨#[]⟩ : ByteArray))).setCell ⟨gb159, 7, none⟩ (.int .i64 0)).setCell ⟨gb159, 8, none⟩ (.int .i64 0))) ?hg ?ho ?hn ?hr ?_; (case ho => rfl); (case hg => rfl); (case hn => rfl); (case hr => first | (go_simp; done) | (go_simp; rfl)); intro w15 hw; have n0_ : Aside0 (w15.heap[gb159]? = some (.cells #[.int .i64 0, .int .i64 0, .int .u64 0, .int .u64 0, .int .u64 0, .int .u64 0, .string (⟨#[]⟩ : ByteArray), .int .i64 0, .int .i64 0] 35 (0, 0))) := ⟨(by rw [hw]; exact (by (with_reducible repeat (first | refine blk_drewN ?_ _ | refine blk_drew ?_ | refine blk_alloc ?_ _)); exact put9h BK159.out))⟩; have n1_ : Aside0 (Below w.heap.size w w15) := ⟨(by rw [hw]; exact (belx1 HB GE159))⟩; clear hw; clear BK159; clear HB; have BK159 := n0_; have HB := n1_; clear n0_ n1_))
        refine bodyPost_ret (results_ct rfl _ _ gb159 35 #[.int .i64 0, .int .i64 0, .int .u64 0, .int .u64 0, .int .u64 0, .int .u64 0, .string (⟨#[]⟩ : ByteArray), .int .i64 0, .int .i64 0] (0, 0) _ rfl (bkx BK159) Tryd.underlying35 rfl (by kernel_rfl)) rfl ?_
        exact ⟨by first | rfl | (simp [errW_none, errW_some] <;> rfl) | (simp [*, errW_none, errW_some] <;> rfl), belx1 HB GE159⟩
      rw [if_neg c13] at H
      have c13b0 : decide (255 < t165) = false := decide_eq_false c13
      clear c13
      by_cases c16 : t163 > t165
      case pos =>
        rw [if_pos c16] at H
        have c16b0 : decide (t165 < t163) = true := decide_eq_true c16
        clear c16
        simp only [Option.some.injEq, Prod.mk.injEq] at H
        obtain ⟨rfl, rfl, rfl, rfl, rfl, rfl, rfl, rfl, rfl, rfl⟩ := H
        have hcz17_0 : wc.cell? ⟨gb159, 0, none⟩ = some (.int .i64 0) := (blk_cell BK159.out 0).trans rfl
        have hcz17_1 : wc.cell? ⟨gb159, 1, none⟩ = some (.int .i64 0) := (blk_cell BK159.out 1).trans rfl
        have hcz17_2 : wc.cell? ⟨gb159, 2, none⟩ = some (.int .u64 0) := (blk_cell BK159.out 2).trans rfl
        have hcz17_3 : wc.cell? ⟨gb159, 3, none⟩ = some (.int .u64 0) := (blk_cell BK159.out 3).trans rfl
        have hcz17_4 : wc.cell? ⟨gb159, 4, none⟩ = some (.int .u64 0) := (blk_cell BK159.out 4).trans rfl
        have hcz17_5 : wc.cell? ⟨gb159, 5, none⟩ = some (.int .u64 0) := (blk_cell BK159.out 5).trans rfl
        have hcz17_6 : wc.cell? ⟨gb159, 6, none⟩ = some (.string (⟨#[]⟩ : ByteArray)) := (blk_cell BK159.out 6).trans rfl
        have hcz17_7 : wc.cell? ⟨gb159, 7, none⟩ = some (.int .i64 0) := (blk_cell BK159.out 7).trans rfl
        have hcz17_8 : wc.cell? ⟨gb159, 8, none⟩ = some (.int .i64 0) := (blk_cell BK159.out 8).trans rfl
        have hfz17_0 := blk_frozen BK159.out 0
        have hfz17_1 := blk_frozen BK159.out 1
        have hfz17_2 := blk_frozen BK159.out 2
        have hfz17_3 := blk_frozen BK159.out 3
        have hfz17_4 := blk_frozen BK159.out 4
        have hfz17_5 := blk_frozen BK159.out 5
        have hfz17_6 := blk_frozen BK159.out 6
        have hfz17_7 := blk_frozen BK159.out 7
        have hfz17_8 := blk_frozen BK159.out 8
        go_wp2_with (first | ((with_reducible refine gate_store (t := 35) (p := 2) rfl ?_); refine store_event (t := 35) (p := 2) (v := ?vo_w18) (w1 := (((((((((wc.setCell ⟨gb159, 0, none⟩ (.int .i64 0)).setCell ⟨gb159, 1, none⟩ (.int .i64 0)).setCell ⟨gb159, 2, none⟩ (.int .u64 0)).setCell ⟨gb159, 3, none⟩ (.int .u64 0)).setCell ⟨gb159, 4, none⟩ (.int .u64 0)).setCell ⟨gb159, 5, none⟩ (.int .u64 0)).setCell ⟨gb159, 6, none⟩ (.string (⟨#[]⟩ : ByteArray))).setCell ⟨gb159, 7, none⟩ (.int .i64 0)).setCell ⟨gb159, 8, none⟩ (.int .i64 0))) ?hg ?ho ?hn ?hr ?_; (case ho => rfl); (case hg => rfl); (case hn => rfl); (case hr => first | (go_simp; done) | (go_simp; rfl)); intro w18 hw; have n0_ : Aside0 (w18.heap[gb159]? = some (.cells #[.int .i64 0, .int .i64 0, .int .u64 0, .int .u64 0, .int .u64 0, .int .u64 0, .string (⟨#[]⟩ : ByteArray), .int .i64 0, .int .i64 0] 35 (0, 0))) := ⟨(by rw [hw]; exact (by (with_reducible repeat (first | refine blk_drewN ?_ _ | refine blk_drew ?_ | refine blk_alloc ?_ _)); exact put9h BK159.out))⟩; have n1_ : Aside0 (Below w.heap.size w w18) := ⟨(by rw [hw]; exact (belx1 HB GE159))⟩; clear hw; clear BK159; clear HB; have BK159 := n0_; have HB := n1_; clear n0_ n1_))
        refine bodyPost_ret (results_ct rfl _ _ gb159 35 #[.int .i64 0, .int .i64 0, .int .u64 0, .int .u64 0, .int .u64 0, .int .u64 0, .string (⟨#[]⟩ : ByteArray), .int .i64 0, .int .i64 0] (0, 0) _ rfl (bkx BK159) Tryd.underlying35 rfl (by kernel_rfl)) rfl ?_
        exact ⟨by first | rfl | (simp [errW_none, errW_some] <;> rfl) | (simp [*, errW_none, errW_some] <;> rfl), belx1 HB GE159⟩
      rw [if_neg c16] at H
      have c16b0 : decide (t165 < t163) = false := decide_eq_false c16
      clear c16
      simp only [Option.some.injEq, Prod.mk.injEq] at H
      obtain ⟨rfl, rfl, rfl, rfl, rfl, rfl, rfl, rfl, rfl, rfl⟩ := H
      have hcz19_0 : wc.cell? ⟨gb159, 0, none⟩ = some (.int .i64 0) := (blk_cell BK159.out 0).trans rfl
      have hcz19_1 : wc.cell? ⟨gb159, 1, none⟩ = some (.int .i64 0) := (blk_cell BK159.out 1).trans rfl
      have hcz19_2 : wc.cell? ⟨gb159, 2, none⟩ = some (.int .u64 0) := (blk_cell BK159.out 2).trans rfl
      have hcz19_3 : wc.cell? ⟨gb159, 3, none⟩ = some (.int .u64 0) := (blk_cell BK159.out 3).trans rfl
      have hcz19_4 : wc.cell? ⟨gb159, 4, none⟩ = some (.int .u64 0) := (blk_cell BK159.out 4).trans rfl
      have hcz19_5 : wc.cell? ⟨gb159, 5, none⟩ = some (.int .u64 0) := (blk_cell BK159.out 5).trans rfl
      have hcz19_6 : wc.cell? ⟨gb159, 6, none⟩ = some (.string (⟨#[]⟩ : ByteArray)) := (blk_cell BK159.out 6).trans rfl
      have hcz19_7 : wc.cell? ⟨gb159, 7, none⟩ = some (.int .i64 0) := (blk_cell BK159.out 7).trans rfl
      have hcz19_8 : wc.cell? ⟨gb159, 8, none⟩ = some (.int .i64 0) := (blk_cell BK159.out 8).trans rfl
      have hfz19_0 := blk_frozen BK159.out 0
      have hfz19_1 := blk_frozen BK159.out 1
      have hfz19_2 := blk_frozen BK159.out 2
      have hfz19_3 := blk_frozen BK159.out 3
      have hfz19_4 := blk_frozen BK159.out 4
      have hfz19_5 := blk_frozen BK159.out 5
      have hfz19_6 := blk_frozen BK159.out 6
      have hfz19_7 := blk_frozen BK159.out 7
      have hfz19_8 := blk_frozen BK159.out 8
      go_wp2_with (first | ((with_reducible refine gate_store (t := 35) (p := 2) rfl ?_); refine store_event (t := 35) (p := 2) (v := ?vo_w20) (w1 := (((((((((wc.setCell ⟨gb159, 0, none⟩ (.int .i64 7)).setCell ⟨gb159, 1, none⟩ (.int .i64 0)).setCell ⟨gb159, 2, none⟩ (.int .u64 0)).setCell ⟨gb159, 3, none⟩ (.int .u64 0)).setCell ⟨gb159, 4, none⟩ (.int .u64 0)).setCell ⟨gb159, 5, none⟩ (.int .u64 0)).setCell ⟨gb159, 6, none⟩ (.string (⟨#[]⟩ : ByteArray))).setCell ⟨gb159, 7, none⟩ (.int .i64 t163)).setCell ⟨gb159, 8, none⟩ (.int .i64 t165))) ?hg ?ho ?hn ?hr ?_; (case ho => rfl); (case hg => rfl); (case hn => rfl); (case hr => first | (go_simp; done) | (go_simp; rfl)); intro w20 hw; have n0_ : Aside0 (w20.heap[gb159]? = some (.cells #[.int .i64 7, .int .i64 0, .int .u64 0, .int .u64 0, .int .u64 0, .int .u64 0, .string (⟨#[]⟩ : ByteArray), .int .i64 t163, .int .i64 t165] 35 (0, 0))) := ⟨(by rw [hw]; exact (by (with_reducible repeat (first | refine blk_drewN ?_ _ | refine blk_drew ?_ | refine blk_alloc ?_ _)); exact put9h BK159.out))⟩; have n1_ : Aside0 (Below w.heap.size w w20) := ⟨(by rw [hw]; exact (belx1 HB GE159))⟩; clear hw; clear BK159; clear HB; have BK159 := n0_; have HB := n1_; clear n0_ n1_))
      refine bodyPost_ret (results_ct rfl _ _ gb159 35 #[.int .i64 7, .int .i64 0, .int .u64 0, .int .u64 0, .int .u64 0, .int .u64 0, .string (⟨#[]⟩ : ByteArray), .int .i64 t163, .int .i64 t165] (0, 0) _ rfl (bkx BK159) Tryd.underlying35 rfl (by kernel_rfl)) rfl ?_
      exact ⟨by first | rfl | (simp [errW_none, errW_some] <;> rfl) | (simp [*, errW_none, errW_some] <;> rfl), belx1 HB GE159⟩
end Go.Proofs.YtepnbnpgifpfbaaDoor.G
