/- Lemmas and walks of this claim: GELexD. -/
import Derived.Test.YtepnbnpgifpfbaaDoorZKd
set_option linter.unusedVariables false
set_option linter.unusedSimpArgs false
namespace Go.Proofs.YtepnbnpgifpfbaaDoor.G
open Go.RowKit Go.Proofs.YtepnbnpgifpfbaaDoorW.PrintWords
set_option maxHeartbeats 4000000 in
set_option maxRecDepth 1000000 in
theorem number_cut_b (s : ByteArray) (h0 : s.toList.isEmpty = false) (hA : 1 < s.size) (hB : (bt s 0 == 48) = false) (hmax : s.size ≤ 281474976710656) (h3 : (stripD s).toList.isEmpty = false) (w : World) (hL_ : LaidW w) :
    Calls Tryd.prog 47 #[.string s] w fun e w' => e = .returned (.tuple #[.int .i64 0, .bool false]) ∧ Below w.heap.size w w' := by
  have hx : ∀ h : 0 < s.size, ((s[0]'h).toNat : Int) = bt s 0 := bt_at s 0
  have hne : 0 < s.size := size_pos_of s h0
  have cl := cutLeft_any s digits10
  unfold stripD at h3
  obtain ⟨L, hL⟩ : ∃ L, cutLeftFrom s digits10 s.size 0 = L := ⟨_, rfl⟩
  rw [hL] at cl h3
  have cr := cutRight_any L digits10 (by have := cutLeft_size s digits10 s.size 0; rw [hL] at this; omega)
  obtain ⟨M, hM⟩ : ∃ M, cutRightF digits10 L.size L = M := ⟨_, rfl⟩
  rw [hM] at cr h3
  unfold digits10 at cl cr
  have CL := Aside0.mk cl
  have CR := Aside0.mk cr
  clear cl cr hL hM
  have c2b0 : (M.toList == ([] : List UInt8)) = false := by simpa using h3
  have c2b1 : (M.toList != ([] : List UInt8)) = true := by simpa using h3
  have h1 : decide ((1 : Int) < (s.size : Int)) = true := decide_eq_true (by omega)
  have h5 : (1 : Int) < (s.size : Int) := by omega
  have h6 : (0 : Int) < (s.size : Int) := by omega
  go_enter Tryd.func47, Tryd.ntmps47
  go_wp2_with fail
  first | (go_region_with (first | (go_at_call 56; refine (CL.out _).mono ?_; rintro e w1 ⟨rfl, hb1⟩; have hq1 : Below w.heap.size w w1 := below_step (by repeat (first | exact Below.refl _ _ | apply below_drew | apply pw_below_drewN)) hb1) | (go_at_call 55; refine (CR.out _ (hL_.below (by repeat (first | exact hq1 | apply below_drew | apply pw_below_drewN)))).mono ?_; rintro e w2 ⟨rfl, hb2⟩; have hq2 : Below w.heap.size w w2 := below_step (by repeat (first | exact hq1 | apply below_drew | apply pw_below_drewN)) hb2))) | fail "the region"
  go_wp2_with fail
  go_ret2
  exact ⟨rfl, (by repeat (first | exact hq2 | apply below_drew | apply pw_below_drewN | apply below_drew1))⟩
set_option maxHeartbeats 4000000 in
set_option maxRecDepth 1000000 in
theorem number_ok_b (s : ByteArray) (h0 : s.toList.isEmpty = false) (hA : 1 < s.size) (hB : (bt s 0 == 48) = false) (hmax : s.size ≤ 281474976710656) (h3 : (stripD s).toList.isEmpty = true) (v : Int) (hv : Lib.atoiAll s.data.toList = .ok v) (w : World) (hL_ : LaidW w) :
    Calls Tryd.prog 47 #[.string s] w fun e w' => e = .returned (.tuple #[.int .i64 (if v > 255 then 256 else v), .bool true]) ∧ Below w.heap.size w w' := by
  have hx : ∀ h : 0 < s.size, ((s[0]'h).toNat : Int) = bt s 0 := bt_at s 0
  have hne : 0 < s.size := size_pos_of s h0
  have cl := cutLeft_any s digits10
  unfold stripD at h3
  obtain ⟨L, hL⟩ : ∃ L, cutLeftFrom s digits10 s.size 0 = L := ⟨_, rfl⟩
  rw [hL] at cl h3
  have cr := cutRight_any L digits10 (by have := cutLeft_size s digits10 s.size 0; rw [hL] at this; omega)
  obtain ⟨M, hM⟩ : ∃ M, cutRightF digits10 L.size L = M := ⟨_, rfl⟩
  rw [hM] at cr h3
  unfold digits10 at cl cr
  have CL := Aside0.mk cl
  have CR := Aside0.mk cr
  clear cl cr hL hM
  have hMe := (isEmpty_iff M).1 h3
  subst hMe
  have h1 : decide ((1 : Int) < (s.size : Int)) = true := decide_eq_true (by omega)
  have h5 : (1 : Int) < (s.size : Int) := by omega
  have h6 : (0 : Int) < (s.size : Int) := by omega
  have cA := Tryd.strconv_Atoi_ok s (by omega) v hv
  have CA := Aside0.mk cA
  clear cA
  have hie := Tryd.underlying92
  by_cases hv2 : v > 255
  · rw [if_pos hv2]
    go_enter Tryd.func47, Tryd.ntmps47
    go_wp2_with fail
    first | (go_region_with (first | (go_at_call 56; refine (CL.out _).mono ?_; rintro e w1 ⟨rfl, hb1⟩; have hq1 : Below w.heap.size w w1 := below_step (by repeat (first | exact Below.refl _ _ | apply below_drew | apply pw_below_drewN)) hb1) | (go_at_call 55; refine (CR.out _ (hL_.below (by repeat (first | exact hq1 | apply below_drew | apply pw_below_drewN)))).mono ?_; rintro e w2 ⟨rfl, hb2⟩; have hq2 : Below w.heap.size w w2 := below_step (by repeat (first | exact hq1 | apply below_drew | apply pw_below_drewN)) hb2))) | fail "the region"
    go_wp2_with (go_at_call 57; refine (CA.out _).mono ?_; rintro e W ⟨rfl, hW⟩; have hq3 : Below w.heap.size w W := by (rcases hW with rfl | ⟨t, rfl⟩; exact (by repeat (first | exact hq2 | apply below_drew | apply pw_below_drewN | apply below_drew1)); exact bytes_below (by repeat (first | exact hq2 | apply below_drew | apply pw_below_drewN | apply below_drew1)) (below_size (by repeat (first | exact hq2 | apply below_drew | apply pw_below_drewN | apply below_drew1))) 5 t))
    go_ret2
    exact ⟨rfl, (by repeat (first | exact hq3 | apply below_drew | apply pw_below_drewN | apply below_drew1))⟩
  · rw [if_neg hv2]
    go_enter Tryd.func47, Tryd.ntmps47
    go_wp2_with fail
    first | (go_region_with (first | (go_at_call 56; refine (CL.out _).mono ?_; rintro e w1 ⟨rfl, hb1⟩; have hq1 : Below w.heap.size w w1 := below_step (by repeat (first | exact Below.refl _ _ | apply below_drew | apply pw_below_drewN)) hb1) | (go_at_call 55; refine (CR.out _ (hL_.below (by repeat (first | exact hq1 | apply below_drew | apply pw_below_drewN)))).mono ?_; rintro e w2 ⟨rfl, hb2⟩; have hq2 : Below w.heap.size w w2 := below_step (by repeat (first | exact hq1 | apply below_drew | apply pw_below_drewN)) hb2))) | fail "the region"
    go_wp2_with (go_at_call 57; refine (CA.out _).mono ?_; rintro e W ⟨rfl, hW⟩; have hq3 : Below w.heap.size w W := by (rcases hW with rfl | ⟨t, rfl⟩; exact (by repeat (first | exact hq2 | apply below_drew | apply pw_below_drewN | apply below_drew1)); exact bytes_below (by repeat (first | exact hq2 | apply below_drew | apply pw_below_drewN | apply below_drew1)) (below_size (by repeat (first | exact hq2 | apply below_drew | apply pw_below_drewN | apply below_drew1))) 5 t))
    go_ret2
    exact ⟨rfl, (by repeat (first | exact hq3 | apply below_drew | apply pw_below_drewN | apply below_drew1))⟩
set_option maxHeartbeats 4000000 in
set_option maxRecDepth 1000000 in
theorem number_range_b (s : ByteArray) (h0 : s.toList.isEmpty = false) (hA : 1 < s.size) (hB : (bt s 0 == 48) = false) (hmax : s.size ≤ 281474976710656) (h3 : (stripD s).toList.isEmpty = true) (hv : Lib.atoiAll s.data.toList = .range) (w : World) (hL_ : LaidW w) :
    Calls Tryd.prog 47 #[.string s] w fun e w' => e = .returned (.tuple #[.int .i64 256, .bool true]) ∧ Below w.heap.size w w' := by
  have hx : ∀ h : 0 < s.size, ((s[0]'h).toNat : Int) = bt s 0 := bt_at s 0
  have hne : 0 < s.size := size_pos_of s h0
  have cl := cutLeft_any s digits10
  unfold stripD at h3
  obtain ⟨L, hL⟩ : ∃ L, cutLeftFrom s digits10 s.size 0 = L := ⟨_, rfl⟩
  rw [hL] at cl h3
  have cr := cutRight_any L digits10 (by have := cutLeft_size s digits10 s.size 0; rw [hL] at this; omega)
  obtain ⟨M, hM⟩ : ∃ M, cutRightF digits10 L.size L = M := ⟨_, rfl⟩
  rw [hM] at cr h3
  unfold digits10 at cl cr
  have CL := Aside0.mk cl
  have CR := Aside0.mk cr
  clear cl cr hL hM
  have hMe := (isEmpty_iff M).1 h3
  subst hMe
  have h1 : decide ((1 : Int) < (s.size : Int)) = true := decide_eq_true (by omega)
  have h5 : (1 : Int) < (s.size : Int) := by omega
  have h6 : (0 : Int) < (s.size : Int) := by omega
  have CA := Aside0.mk (Tryd.strconv_Atoi_range_var s hmax hv)
  have hie := Tryd.underlying92
  go_enter Tryd.func47, Tryd.ntmps47
  go_wp2_with fail
  first | (go_region_with (first | (go_at_call 56; refine (CL.out _).mono ?_; rintro e w1 ⟨rfl, hb1⟩; have hq1 : Below w.heap.size w w1 := below_step (by repeat (first | exact Below.refl _ _ | apply below_drew | apply pw_below_drewN)) hb1) | (go_at_call 55; refine (CR.out _ (hL_.below (by repeat (first | exact hq1 | apply below_drew | apply pw_below_drewN)))).mono ?_; rintro e w2 ⟨rfl, hb2⟩; have hq2 : Below w.heap.size w w2 := below_step (by repeat (first | exact hq1 | apply below_drew | apply pw_below_drewN)) hb2))) | fail "the region"
  go_wp2_with (go_at_call 57; obtain ⟨tp, p, hvar⟩ := (hL_.below (by repeat (first | exact hq2 | apply below_drew | apply pw_below_drewN | apply below_drew1))).errRange; refine (CA.out tp p _ hvar).mono ?_; rintro e W ⟨N, rfl, hN, hcells, hW⟩; have hq3 : Below w.heap.size w W := below_step (by repeat (first | exact hq2 | apply below_drew | apply pw_below_drewN | apply below_drew1)) hW)
  go_ret2
  exact ⟨rfl, (by repeat (first | exact hq3 | apply below_drew | apply pw_below_drewN | apply below_drew1))⟩
end Go.Proofs.YtepnbnpgifpfbaaDoor.G
