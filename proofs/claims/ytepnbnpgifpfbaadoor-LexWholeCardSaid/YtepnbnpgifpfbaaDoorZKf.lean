/- Lemmas and walks of this claim: GELexOne, GLexRead. -/
import Derived.Test.YtepnbnpgifpfbaaDoorZKb
import Derived.Test.YtepnbnpgifpfbaaDoorZGEOneY
import Derived.Test.YtepnbnpgifpfbaaDoorZGEOneNBytes
import Derived.Test.YtepnbnpgifpfbaaDoorZGEOneNText
import Derived.Test.YtepnbnpgifpfbaaDoorZGEOneNRepeat
import Derived.Test.YtepnbnpgifpfbaaDoorZGEOneRBytes
import Derived.Test.YtepnbnpgifpfbaaDoorZGEOneRText
import Derived.Test.YtepnbnpgifpfbaaDoorZGEOneRRepeat
import Derived.Lib.IndexLaws
set_option linter.unusedVariables false
set_option linter.unusedSimpArgs false
namespace Go.Proofs.YtepnbnpgifpfbaaDoor.G
open Go.RowKit Go.Proofs.YtepnbnpgifpfbaaDoorW.PrintWords
abbrev OneR := Int × Int × Int × Int × Int × Int × ByteArray × Int × Int × Int × Int
abbrev TokR := Int × Int × Int × Int × Int × Int × ByteArray × Int × Int × Int
def shortK (c : Int) : Int := if c = 40 then 3 else if c = 41 then 4 else if c = 124 then 5 else if c = 42 then 6 else if c = 98 then 8 else if c = 119 then 9 else 0
def oneLong (s : ByteArray) (ce why : Int) (rd : ByteArray → Option TokR) : Option OneR :=
  (strings_IndexByte.f (s.extract 1 s.size) ce).bind fun n =>
    if n < 0 then some (0, 0, 0, 0, 0, 0, ⟨#[]⟩, 0, 0, 0, why)
    else (rd (s.extract 1 (1 + n).toNat)).bind fun t => some (t.1, t.2.1, t.2.2.1, t.2.2.2.1, t.2.2.2.2.1, t.2.2.2.2.2.1, t.2.2.2.2.2.2.1, t.2.2.2.2.2.2.2.1, t.2.2.2.2.2.2.2.2.1, n + 2, t.2.2.2.2.2.2.2.2.2)
def lex_one.f (k : Nat) (a0 : ByteArray) : Option OneR :=
  if 0 < a0.size ∧ a0.size ≤ 281474976710656 then
    if shortK (bt a0 0) ≠ 0 then some (shortK (bt a0 0), 0, 0, 0, 0, 0, ⟨#[]⟩, 0, 0, 1, 0)
    else if bt a0 0 = 46 then (class_Not.f 0 0 0 0).bind fun x => some (1, 0, x.1, x.2.1, x.2.2.1, x.2.2.2, ⟨#[]⟩, 0, 0, 1, 0)
    else if bt a0 0 = 60 then oneLong a0 62 2 (lex_bytes.f k)
    else if bt a0 0 = 34 then oneLong a0 34 3 lex_text.f
    else if bt a0 0 = 123 then oneLong a0 125 4 (lex_repeat.f k)
    else some (0, 0, 0, 0, 0, 0, ⟨#[]⟩, 0, 0, 0, 1)
  else none
theorem findNow_cons (c k : Int) (v : Value) (n : Nat) (es : List MapEntry) (i : Nat) (h : c ≠ k) : Instr.findNow (.int .u8) (.int .u8 c) (⟨.int .u8 k, v, n⟩ :: es) i = Instr.findNow (.int .u8) (.int .u8 c) es (i + 1) := by
  have hb : (c == k) = false := by rw [beq_eq_false_iff_ne]; exact h
  simp [Instr.findNow, Instr.sameNow, hb, h]
theorem shorts_none (c : Int) (h : shortK c = 0) : Instr.findNow (.int .u8) (.int .u8 c) shortsE.toList 0 = some none := by
  unfold shortK at h
  unfold shortsE
  split at h
  · omega
  split at h
  · omega
  split at h
  · omega
  split at h
  · omega
  split at h
  · omega
  split at h
  · omega
  rw [findNow_cons _ _ _ _ _ _ (by assumption), findNow_cons _ _ _ _ _ _ (by assumption), findNow_cons _ _ _ _ _ _ (by assumption), findNow_cons _ _ _ _ _ _ (by assumption), findNow_cons _ _ _ _ _ _ (by assumption), findNow_cons _ _ _ _ _ _ (by assumption)]
  rfl
theorem longs_none (c : Int) (h1 : c ≠ 60) (h2 : c ≠ 34) (h3 : c ≠ 123) : Instr.findNow (.int .u8) (.int .u8 c) longsE.toList 0 = some none := by
  unfold longsE
  rw [findNow_cons _ _ _ _ _ _ h1, findNow_cons _ _ _ _ _ _ h2, findNow_cons _ _ _ _ _ _ h3]
  rfl
theorem index_lt (s : ByteArray) (c n : Int) (hs : 0 < s.size) (h : strings_IndexByte.f (s.extract 1 s.size) c = some n) (hn : ¬ n < 0) : 1 + n < s.size := by
  obtain rfl := Option.some.inj h
  obtain ⟨o, ho⟩ := Int.eq_ofNat_of_zero_le (Int.not_lt.1 hn)
  obtain ⟨h1, _⟩ := Lib.indexByte_some ho
  have h2 : o < (s.extract 1 s.size).data.toList.length := by
    rcases Nat.lt_or_ge o (s.extract 1 s.size).data.toList.length with h | h
    · exact h
    · rw [List.getElem?_eq_none h] at h1; cases h1
  have h3 : (s.extract 1 s.size).data.toList.length = s.size - 1 := by
    have : (s.extract 1 s.size).data.toList.length = (s.extract 1 s.size).size := by simp
    rw [this]; simp
  omega
theorem lex_one.calls (k : Nat) (a0 : ByteArray) (r1 r2 r3 r4 r5 r6 : Int) (r7 : ByteArray) (r8 r9 r10 r11 : Int) (w : World) (hL_ : LaidW w) (h : lex_one.f k a0 = some (r1, r2, r3, r4, r5, r6, r7, r8, r9, r10, r11)) :
    Calls Tryd.prog 21 #[.string a0] w fun e w' => e = .returned (.tuple #[.agg #[.int .i64 r1, .int .i64 r2, .int .u64 r3, .int .u64 r4, .int .u64 r5, .int .u64 r6, .string r7, .int .i64 r8, .int .i64 r9], .int .i64 r10, .int .i64 r11]) ∧ Below w.heap.size w w' := by
  unfold lex_one.f at h
  by_cases hs : 0 < a0.size ∧ a0.size ≤ 281474976710656
  case neg => rw [if_neg hs] at h; cases h
  rw [if_pos hs] at h
  by_cases hk : shortK (bt a0 0) ≠ 0
  · rw [if_pos hk] at h
    simp only [Option.some.injEq, Prod.mk.injEq] at h
    obtain ⟨rfl, rfl, rfl, rfl, rfl, rfl, rfl, rfl, rfl, rfl, rfl⟩ := h
    by_cases c1 : bt a0 0 = 40
    · rw [c1]; exact one_short a0 hs.1 40 3 0 c1 rfl w
    by_cases c2 : bt a0 0 = 41
    · rw [c2]; exact one_short a0 hs.1 41 4 1 c2 rfl w
    by_cases c3 : bt a0 0 = 124
    · rw [c3]; exact one_short a0 hs.1 124 5 2 c3 rfl w
    by_cases c4 : bt a0 0 = 42
    · rw [c4]; exact one_short a0 hs.1 42 6 3 c4 rfl w
    by_cases c5 : bt a0 0 = 98
    · rw [c5]; exact one_short a0 hs.1 98 8 4 c5 rfl w
    by_cases c6 : bt a0 0 = 119
    · rw [c6]; exact one_short a0 hs.1 119 9 5 c6 rfl w
    exfalso
    apply hk
    unfold shortK
    rw [if_neg c1, if_neg c2, if_neg c3, if_neg c4, if_neg c5, if_neg c6]
  rw [if_neg hk] at h
  have hk0 : shortK (bt a0 0) = 0 := Decidable.byContradiction hk
  have hf1 := shorts_none _ hk0
  clear hk hk0
  by_cases h46 : bt a0 0 = 46
  · rw [if_pos h46] at h
    obtain ⟨⟨x1, x2, x3, x4⟩, hx, h⟩ := Option.bind_eq_some_iff.1 h
    simp only [Option.some.injEq, Prod.mk.injEq] at h
    obtain ⟨rfl, rfl, rfl, rfl, rfl, rfl, rfl, rfl, rfl, rfl, rfl⟩ := h
    exact one_dot a0 hs.1 _ h46 rfl (h46 ▸ hf1) _ _ _ _ hx w
  rw [if_neg h46] at h
  by_cases h60 : bt a0 0 = 60
  · rw [if_pos h60] at h
    unfold oneLong at h
    obtain ⟨n, hn, h⟩ := Option.bind_eq_some_iff.1 h
    by_cases hneg : n < 0
    · rw [if_pos hneg] at h
      simp only [Option.some.injEq, Prod.mk.injEq] at h
      obtain ⟨rfl, rfl, rfl, rfl, rfl, rfl, rfl, rfl, rfl, rfl, rfl⟩ := h
      exact one_bytes_neg a0 hs.1 _ h60 rfl n hn hneg w
    · rw [if_neg hneg] at h
      obtain ⟨⟨t1, t2, t3, t4, t5, t6, t7, t8, t9, why⟩, ht, h⟩ := Option.bind_eq_some_iff.1 h
      simp only [Option.some.injEq, Prod.mk.injEq] at h
      obtain ⟨rfl, rfl, rfl, rfl, rfl, rfl, rfl, rfl, rfl, rfl, rfl⟩ := h
      exact one_bytes_read a0 hs.1 _ h60 rfl n hn k (Int.not_lt.1 hneg) (index_lt a0 _ n hs.1 hn hneg) hs.2 _ _ _ _ _ _ _ _ _ _ ht w hL_
  rw [if_neg h60] at h
  by_cases h34 : bt a0 0 = 34
  · rw [if_pos h34] at h
    unfold oneLong at h
    obtain ⟨n, hn, h⟩ := Option.bind_eq_some_iff.1 h
    by_cases hneg : n < 0
    · rw [if_pos hneg] at h
      simp only [Option.some.injEq, Prod.mk.injEq] at h
      obtain ⟨rfl, rfl, rfl, rfl, rfl, rfl, rfl, rfl, rfl, rfl, rfl⟩ := h
      exact one_text_neg a0 hs.1 _ h34 rfl n hn hneg w
    · rw [if_neg hneg] at h
      obtain ⟨⟨t1, t2, t3, t4, t5, t6, t7, t8, t9, why⟩, ht, h⟩ := Option.bind_eq_some_iff.1 h
      simp only [Option.some.injEq, Prod.mk.injEq] at h
      obtain ⟨rfl, rfl, rfl, rfl, rfl, rfl, rfl, rfl, rfl, rfl, rfl⟩ := h
      exact one_text_read a0 hs.1 _ h34 rfl n hn (Int.not_lt.1 hneg) (index_lt a0 _ n hs.1 hn hneg) hs.2 _ _ _ _ _ _ _ _ _ _ ht w hL_
  rw [if_neg h34] at h
  by_cases h123 : bt a0 0 = 123
  · rw [if_pos h123] at h
    unfold oneLong at h
    obtain ⟨n, hn, h⟩ := Option.bind_eq_some_iff.1 h
    by_cases hneg : n < 0
    · rw [if_pos hneg] at h
      simp only [Option.some.injEq, Prod.mk.injEq] at h
      obtain ⟨rfl, rfl, rfl, rfl, rfl, rfl, rfl, rfl, rfl, rfl, rfl⟩ := h
      exact one_repeat_neg a0 hs.1 _ h123 rfl n hn hneg w
    · rw [if_neg hneg] at h
      obtain ⟨⟨t1, t2, t3, t4, t5, t6, t7, t8, t9, why⟩, ht, h⟩ := Option.bind_eq_some_iff.1 h
      simp only [Option.some.injEq, Prod.mk.injEq] at h
      obtain ⟨rfl, rfl, rfl, rfl, rfl, rfl, rfl, rfl, rfl, rfl, rfl⟩ := h
      exact one_repeat_read a0 hs.1 _ h123 rfl n hn k (Int.not_lt.1 hneg) (index_lt a0 _ n hs.1 hn hneg) hs.2 _ _ _ _ _ _ _ _ _ _ ht w hL_
  rw [if_neg h123] at h
  simp only [Option.some.injEq, Prod.mk.injEq] at h
  obtain ⟨rfl, rfl, rfl, rfl, rfl, rfl, rfl, rfl, rfl, rfl, rfl⟩ := h
  exact one_none a0 hs.1 _ rfl (by rw [beq_eq_false_iff_ne]; exact h46) (eq_false h46) hf1 (longs_none _ h60 h34 h123) w
end Go.Proofs.YtepnbnpgifpfbaaDoor.G
namespace Go.Proofs.YtepnbnpgifpfbaaDoor.G
open Go.RowKit Go.Proofs.YtepnbnpgifpfbaaDoorW.PrintWords Go.Proofs.YtepnbnpgifpfbaaDoorW.PrintLast Go.Proofs.YtepnbnpgifpfbaaDoorW.PrintMore
attribute [local go_sem] max2_int min2_int max_two min_two max_three min_three max_four min_four
set_option linter.unusedVariables false
set_option linter.unusedSimpArgs false
def lex_Read.l0 : Nat → ByteArray → List (S35) → Int → Option ((List (S35)) × Int × Int)
  | 0, _, _, _ => none
  | k + 1, x0, x5, x6 => if x6 < (x0.size : Int) then (if 0 ≤ x6 then (if (bt x0 x6) = 32 then (lex_Read.l0 k x0 x5 (wrap64 (x6 + 1))) else (if x6 ≤ (x0.size : Int) then ((lex_one.f k (x0.extract (x6 : Int).toNat x0.size)).bind fun bt170 => (if bt170.2.2.2.2.2.2.2.2.2.2 = 0 then (if x5.length < 1759218604441 then (lex_Read.l0 k x0 (x5 ++ [(⟨bt170.1, x6, (⟨bt170.2.2.1, bt170.2.2.2.1, bt170.2.2.2.2.1, bt170.2.2.2.2.2.1⟩ : S33), bt170.2.2.2.2.2.2.1, bt170.2.2.2.2.2.2.2.1, bt170.2.2.2.2.2.2.2.2.1⟩ : S35)]) (wrap64 (x6 + bt170.2.2.2.2.2.2.2.2.2.1))) else (none)) else (some (([] : List (S35)), bt170.2.2.2.2.2.2.2.2.2.2, x6)))) else (none))) else (none)) else (if x5.length < 1759218604441 then (some ((x5 ++ [(⟨10, (x0.size : Int), (⟨0, 0, 0, 0⟩ : S33), (⟨#[]⟩ : ByteArray), 0, 0⟩ : S35)]), 0, 0)) else (none))
def lex_Read.f (k : Nat) (a0 : ByteArray) : Option ((List (S35)) × Int × Int) := lex_Read.l0 k a0 ([] : List (S35)) 0
set_option maxHeartbeats 8000000 in
set_option maxRecDepth 100000 in
theorem lex_Read.calls (k : Nat) (a0 : ByteArray) (r1 : List (S35)) (r2 : Int) (r3 : Int) (w : World) (hL_ : LaidW w) (h : lex_Read.f k a0 = some (r1, r2, r3)) :
    Calls Tryd.prog 11 #[.string a0] w fun e w' => ∃ v0_ : Value, e = .returned (.tuple #[v0_, .int .i64 r2, .int .i64 r3]) ∧ Kd.R k35 35 w' w.heap.size (fun _ => True) v0_ r1 ∧ Below w.heap.size w w' := by
  have hu35 := Tryd.underlying35
  have HB := Aside0.mk (Below.refl w.heap.size w)
  have H : (lex_Read.l0 k a0 ([] : List (S35)) 0) = some (r1, r2, r3) := h
  clear h
  have H' := Aside0.mk H
  clear H
  go_enter Tryd.func11, Tryd.ntmps11
  go_wp2
  go_loopg [5, 6] k (fun kq v5 v6 w' => ∃ (x5_1 : List (S35)) (x6_1 : Int), v6 = .int .i64 x6_1 ∧ Aside0 (lex_Read.l0 kq a0 x5_1 x6_1 = some (r1, r2, r3)) ∧ Aside0 (kq ≤ k) ∧ Aside0 (Kd.R k35 35 w' w.heap.size (fun _ => True) v5 x5_1) ∧ Aside0 (Below w.heap.size w w'))
  case atStart => exact ⟨(([] : List (S35))), (0), (by first | rfl | (simp; done) | (simp [*]; done) | exact congrArg (Value.int .i64) (by unfold wrap64; omega)), (by first | exact H' | (subst_vars; exact H')), ⟨Nat.le_refl _⟩, ⟨by first | exact Kd.R_nil _ _ _ _ _ | exact Kd.N_nil _ _ _ _ _ | exact Kd.V_nil _ _ _ _ _ | exact Kd.Q_nil _ _ _ _ _ | exact Kd.S_nil _ _ _ _ _⟩, ⟨belx HB⟩⟩
  case round =>
    clear H'
    obtain ⟨x5_1, x6_1, rfl, HA, HK1, HO_5, HB⟩ := hrel
    cases gk with
    | zero => exact absurd HA.out (by simp [lex_Read.l0])
    | succ k1 =>
      have H := HA.out
      clear HA
      simp only [lex_Read.l0] at H
      by_cases c2 : x6_1 < (a0.size : Int)
      case neg =>
        rw [if_neg c2] at H
        have c2b0 : decide (x6_1 < (a0.size : Int)) = false := decide_eq_false c2
        clear c2
        by_cases c21 : x5_1.length < 1759218604441
        case neg => rw [if_neg c21] at H; exact absurd H (by simp);
        rw [if_pos c21] at H
        have LMc21 := Aside0.mk c21
        clear c21
        obtain ⟨y167, hy167⟩ : ∃ y_ : List (S35), y_ = (x5_1 ++ [(⟨10, (a0.size : Int), (⟨0, 0, 0, 0⟩ : S33), (⟨#[]⟩ : ByteArray), 0, 0⟩ : S35)]) := ⟨_, rfl⟩
        replace H : (some (y167, 0, 0)) = some (r1, r2, r3) := by first | (rw [hy167]; with_reducible exact H) | (have H2_ := (Option.bind_some _ _).symm.trans H; rw [hy167]; with_reducible exact H2_) | (have H2_ := (Option.bind_some _ _).symm.trans H; with_reducible exact H2_) | with_reducible exact H | (rw [hy167]; exact H) | exact H
        have Ny167 := Aside0.mk hy167
        clear hy167
        simp only [Option.some.injEq, Prod.mk.injEq] at H
        obtain ⟨rfl, rfl, rfl⟩ := H
        go_wp2_with (first | ((with_reducible refine gate_builtin (b := .append) (xs := #[.tmp 41, .tmp 45]) rfl ?_); at_builtin; refine Kd.R_append k35 (w0 := w) w.heap.size rfl (.tmp 41) (.tmp 45) 23 35 (.agg #[(.int .i64 0), (.int .i64 0), (.int .u64 0), (.int .u64 0), (.int .u64 0), (.int .u64 0), (.string ⟨#[]⟩), (.int .i64 0), (.int .i64 0)]) 80 rfl Tryd.underlying23 info35 rfl (by decide) (by omega) u5 x5_1 (⟨10, (a0.size : Int), (⟨0, 0, 0, 0⟩ : S33), (⟨#[]⟩ : ByteArray), 0, 0⟩ : S35) [.int .i64 10, .int .i64 (a0.size : Int), .int .u64 0, .int .u64 0, .int .u64 0, .int .u64 0, .string (⟨#[]⟩ : ByteArray), .int .i64 0, .int .i64 0] (fun _ => True) (fun _ => False) rfl rfl ?aP (fun _ hk => hk.elim) ?aF ?aO ?aB ?aS ?aL ?_; (case aP => exact k35_mkM _ _ _ (⟨10, (a0.size : Int), (⟨0, 0, 0, 0⟩ : S33), (⟨#[]⟩ : ByteArray), 0, 0⟩ : S35)); (case aB => exact (belx HB)); (case aF => exact (fun _ _ => trivial)); (case aO => exact (by (with_reducible repeat (first | apply Kd.R_alloc | apply Kd.R_drewN | apply Kd.R_drew)); exact HO_5.out)); (case aS => exact (below_size (belx HB))); (case aL => have := LMc21.out; omega); intro v168 w22 ho hb hg hat; rw [← Ny167.out] at ho; have n0_ := Aside0.mk (hb); have n1_ := Aside0.mk (ho); clear HB; clear HO_5; have HB := n0_; have HO169 := n1_; clear n0_ n1_; clear ho hb hg hat))
        go_ret3
        exact ⟨_, by first | rfl | (simp [errW_none, errW_some] <;> rfl) | (simp [*, errW_none, errW_some] <;> rfl), by (with_reducible repeat (first | apply Kd.R_alloc | apply Kd.R_drewN | apply Kd.R_drew)); exact HO169.out, belx HB⟩
      rw [if_pos c2] at H
      have c2b0 : decide (x6_1 < (a0.size : Int)) = true := decide_eq_true c2
      clear c2
      by_cases c3 : 0 ≤ x6_1
      case neg => rw [if_neg c3] at H; exact absurd H (by simp)
      rw [if_pos c3] at H
      have c3b0 : decide (0 ≤ x6_1) = true := decide_eq_true c3
      clear c3
      by_cases c5 : (bt a0 x6_1) = 32
      case pos =>
        rw [if_pos c5] at H
        have c5b0 : ((bt a0 x6_1) == 32) = true := beq_iff_eq.mpr c5
        have c5b1 : ((bt a0 x6_1) != 32) = false := bne_eq_false_iff_eq.mpr c5
        clear c5
        have H' := Aside0.mk H
        clear H
        have p4 : 0 ≤ (x6_1 : Int) := odt
        have q4 : x6_1 < (a0.size : Int) := odt
        have hx4 := bt_at a0 x6_1
        replace p4 := eq_true p4
        replace q4 := eq_true q4
        go_wp2
        go_roundg k1
        case measure => have := HK1.out; omega
        case rel => exact ⟨(x5_1), (wrap64 (x6_1 + 1)), (by first | rfl | (simp; done) | (simp [*]; done) | exact congrArg (Value.int .i64) (by unfold wrap64; omega)), (by first | exact H' | (subst_vars; exact H')), ⟨by have := HK1.out; omega⟩, ⟨by (with_reducible repeat (first | apply Kd.R_alloc | apply Kd.R_drewN | apply Kd.R_drew)); exact HO_5.out⟩, ⟨belx HB⟩⟩
      rw [if_neg c5] at H
      have c5b0 : ((bt a0 x6_1) == 32) = false := beq_eq_false_iff_ne.mpr c5
      have c5b1 : ((bt a0 x6_1) != 32) = true := bne_iff_ne.mpr c5
      have c6b0 := eq_true (odt : 0 ≤ x6_1)
      by_cases c7 : x6_1 ≤ (a0.size : Int)
      case neg => rw [if_neg c7] at H; exact absurd H (by simp)
      rw [if_pos c7] at H
      have c7b0 := eq_true c7
      have c7b1 : decide (x6_1 ≤ (a0.size : Int)) = true := decide_eq_true c7
      clear c7
      replace H := Option.bind_eq_some_iff.mp H
      obtain ⟨⟨t170, t171, t172, t173, t174, t175, t176, t177, t178, t179, t180⟩, A80, H⟩ := H
      replace H : (if t180 = 0 then (if x5_1.length < 1759218604441 then (lex_Read.l0 k1 a0 (x5_1 ++ [(⟨t170, x6_1, (⟨t172, t173, t174, t175⟩ : S33), t176, t177, t178⟩ : S35)]) (wrap64 (x6_1 + t179))) else (none)) else (some (([] : List (S35)), t180, x6_1))) = some (r1, r2, r3) := H
      have A8 := Aside0.mk A80
      clear A80
      by_cases c9 : t180 = 0
      case neg =>
        rw [if_neg c9] at H
        have c9b0 : (t180 == 0) = false := beq_eq_false_iff_ne.mpr c9
        have c9b1 : (t180 != 0) = true := bne_iff_ne.mpr c9
        simp only [Option.some.injEq, Prod.mk.injEq] at H
        obtain ⟨rfl, rfl, rfl⟩ := H
        have p4 : 0 ≤ (x6_1 : Int) := odt
        have q4 : x6_1 < (a0.size : Int) := odt
        have hx4 := bt_at a0 x6_1
        replace p4 := eq_true p4
        replace q4 := eq_true q4
        go_wp2_with (first | ((with_reducible refine gate_callee (f := 21) rfl ?_); refine goesL_ (some 24) rfl rfl Tryd.func21 (by kernel_rfl) rfl #[.string (a0.extract (x6_1 : Int).toNat a0.size)] rfl (by (try simp only [List.map_toArray, List.map_cons, List.map_nil]); first | done | rfl | (simp only [List.length_drop, List.length_take]; rfl)) ?_; (with_reducible refine (lex_one.calls k1 (a0.extract (x6_1 : Int).toNat a0.size) t170 t171 t172 t173 t174 t175 t176 t177 t178 t179 t180 _ ?side1 A8.out).mono ?_); (case side1 => exact (by repeat (first | exact hL_ | apply LaidW.drewN | apply LaidW.drew | refine LaidW.below hL_ (belx HB)))); rintro e w17 ⟨rfl, hb⟩; refine ⟨_, rfl, ?_⟩; have n0_ := Aside0.mk (Kd.R_below (by (with_reducible repeat (first | apply Kd.R_alloc | apply Kd.R_drewN | apply Kd.R_drew)); exact HO_5.out) hb); have n1_ := Aside0.mk (below_step (belx HB) hb); clear HO_5; clear HB; have HO_5 := n0_; have HB := n1_; clear n0_ n1_; (try clear hb); (try clear hb2); (try clear hk); (try clear hi)) | ((with_reducible refine gate_dst (N := 7) rfl ?_); refine box_event ?hg (N := 7) ?hd (cs := #[.int .i64 0, .int .i64 0, .int .u64 0, .int .u64 0, .int .u64 0, .int .u64 0, .string (⟨#[]⟩ : ByteArray), .int .i64 0, .int .i64 0]) (t := 35) ?hr ?_; (case hd => rfl); (case hg => rfl); (case hr => first | (go_simp; done) | (go_simp; rfl)); intro gb181 hg w18 hbox hb; have n0_ := Aside0.mk (Kd.R_below (Kd.R_elderB (by (with_reducible repeat (first | apply Kd.R_alloc | apply Kd.R_drewN | apply Kd.R_drew)); exact HO_5.out) gb181 (Nat.le_of_eq hg.symm)) hb); have n1_ := Aside0.mk (below_step (belx HB) hb); have n2_ := Aside0.mk (hbox); have n3_ := Aside0.mk ((by rw [hg]; exact (below_size (belx HB)) : w.heap.size ≤ gb181)); have n4_ := Aside0.mk ((by rw [hg]; exact (below_size (belx HB)) : w.heap.size ≤ gb181)); clear HO_5; clear HB; have HO_5 := n0_; have HB := n1_; have BK181 := n2_; have GW181 := n3_; have GE181 := n4_; clear n0_ n1_ n2_ n3_ n4_; clear hb hbox hg; obtain ⟨hcz19_0, hcz19_1, hcz19_2, hcz19_3, hcz19_4, hcz19_5, hcz19_6, hcz19_7, hcz19_8, hfz19_0, hfz19_1, hfz19_2, hfz19_3, hfz19_4, hfz19_5, hfz19_6, hfz19_7, hfz19_8⟩ := cells9 BK181.out) | ((with_reducible refine gate_store (t := 35) (p := 7) rfl ?_); refine store_event (t := 35) (p := 7) (v := ?vo_w20) (w1 := (((((((((w18.setCell ⟨gb181, 0, none⟩ (.int .i64 t170)).setCell ⟨gb181, 1, none⟩ (.int .i64 t171)).setCell ⟨gb181, 2, none⟩ (.int .u64 t172)).setCell ⟨gb181, 3, none⟩ (.int .u64 t173)).setCell ⟨gb181, 4, none⟩ (.int .u64 t174)).setCell ⟨gb181, 5, none⟩ (.int .u64 t175)).setCell ⟨gb181, 6, none⟩ (.string t176)).setCell ⟨gb181, 7, none⟩ (.int .i64 t177)).setCell ⟨gb181, 8, none⟩ (.int .i64 t178))) ?hg ?ho ?hn ?hr ?_; (case ho => rfl); (case hg => rfl); (case hn => rfl); (case hr => first | (go_simp; done) | (go_simp; rfl)); intro w20 hw; have n0_ : Aside0 (Kd.R k35 35 w20 w.heap.size (fun k_ => k_ ≠ gb181) u5 x5_1) := ⟨(by rw [hw]; exact (by (with_reducible repeat (first | apply Kd.R_alloc | apply Kd.R_drewN | apply Kd.R_drew)); exact Kd.R_mono (Kd.R_far (p := ⟨gb181, 8, none⟩) (Kd.R_far (p := ⟨gb181, 7, none⟩) (Kd.R_far (p := ⟨gb181, 6, none⟩) (Kd.R_far (p := ⟨gb181, 5, none⟩) (Kd.R_far (p := ⟨gb181, 4, none⟩) (Kd.R_far (p := ⟨gb181, 3, none⟩) (Kd.R_far (p := ⟨gb181, 2, none⟩) (Kd.R_far (p := ⟨gb181, 1, none⟩) (Kd.R_far (p := ⟨gb181, 0, none⟩) (Kd.R_mono HO_5.out (fun k_ hk => (⟨hk, hk.2⟩ : _ ∧ k_ ≠ gb181))) (fun _ hk => hk.2) (.int .i64 t170)) (fun _ hk => hk.2) (.int .i64 t171)) (fun _ hk => hk.2) (.int .u64 t172)) (fun _ hk => hk.2) (.int .u64 t173)) (fun _ hk => hk.2) (.int .u64 t174)) (fun _ hk => hk.2) (.int .u64 t175)) (fun _ hk => hk.2) (.string t176)) (fun _ hk => hk.2) (.int .i64 t177)) (fun _ hk => hk.2) (.int .i64 t178)) (fun _ hk => hk.1.2)))⟩; have n1_ : Aside0 (w20.heap[gb181]? = some (.cells #[.int .i64 t170, .int .i64 t171, .int .u64 t172, .int .u64 t173, .int .u64 t174, .int .u64 t175, .string t176, .int .i64 t177, .int .i64 t178] 35 (0, 0))) := ⟨(by rw [hw]; exact (by (with_reducible repeat (first | refine blk_drewN ?_ _ | refine blk_drew ?_ | refine blk_alloc ?_ _)); exact put9h BK181.out))⟩; have n2_ : Aside0 (Below w.heap.size w w20) := ⟨(by rw [hw]; exact (belx1 HB GE181))⟩; clear hw; clear HO_5; clear BK181; clear HB; have HO_5 := n0_; have BK181 := n1_; have HB := n2_; clear n0_ n1_ n2_))
        go_ret3
        exact ⟨_, by first | rfl | (simp [errW_none, errW_some] <;> rfl) | (simp [*, errW_none, errW_some] <;> rfl), by first | exact Kd.R_nil _ _ _ _ _ | exact Kd.N_nil _ _ _ _ _ | exact Kd.V_nil _ _ _ _ _ | exact Kd.Q_nil _ _ _ _ _ | exact Kd.S_nil _ _ _ _ _, belx1 HB GE181⟩
      rw [if_pos c9] at H
      have c9b0 : (t180 == 0) = true := beq_iff_eq.mpr c9
      have c9b1 : (t180 != 0) = false := bne_eq_false_iff_eq.mpr c9
      clear c9
      by_cases c10 : x5_1.length < 1759218604441
      case neg => rw [if_neg c10] at H; exact absurd H (by simp)
      rw [if_pos c10] at H
      have LMc10 := Aside0.mk c10
      clear c10
      obtain ⟨y182, hy182⟩ : ∃ y_ : List (S35), y_ = (x5_1 ++ [(⟨t170, x6_1, (⟨t172, t173, t174, t175⟩ : S33), t176, t177, t178⟩ : S35)]) := ⟨_, rfl⟩
      replace H : (lex_Read.l0 k1 a0 y182 (wrap64 (x6_1 + t179))) = some (r1, r2, r3) := by first | (rw [hy182]; with_reducible exact H) | (have H2_ := (Option.bind_some _ _).symm.trans H; rw [hy182]; with_reducible exact H2_) | (have H2_ := (Option.bind_some _ _).symm.trans H; with_reducible exact H2_) | with_reducible exact H | (rw [hy182]; exact H) | exact H
      have Ny182 := Aside0.mk hy182
      clear hy182
      have H' := Aside0.mk H
      clear H
      have p4 : 0 ≤ (x6_1 : Int) := odt
      have q4 : x6_1 < (a0.size : Int) := odt
      have hx4 := bt_at a0 x6_1
      replace p4 := eq_true p4
      replace q4 := eq_true q4
      go_wp2_with (first | ((with_reducible refine gate_callee (f := 21) rfl ?_); refine goesL_ (some 24) rfl rfl Tryd.func21 (by kernel_rfl) rfl #[.string (a0.extract (x6_1 : Int).toNat a0.size)] rfl (by (try simp only [List.map_toArray, List.map_cons, List.map_nil]); first | done | rfl | (simp only [List.length_drop, List.length_take]; rfl)) ?_; (with_reducible refine (lex_one.calls k1 (a0.extract (x6_1 : Int).toNat a0.size) t170 t171 t172 t173 t174 t175 t176 t177 t178 t179 t180 _ ?side1 A8.out).mono ?_); (case side1 => exact (by repeat (first | exact hL_ | apply LaidW.drewN | apply LaidW.drew | refine LaidW.below hL_ (belx HB)))); rintro e w11 ⟨rfl, hb⟩; refine ⟨_, rfl, ?_⟩; have n0_ := Aside0.mk (Kd.R_below (by (with_reducible repeat (first | apply Kd.R_alloc | apply Kd.R_drewN | apply Kd.R_drew)); exact HO_5.out) hb); have n1_ := Aside0.mk (below_step (belx HB) hb); clear HO_5; clear HB; have HO_5 := n0_; have HB := n1_; clear n0_ n1_; (try clear hb); (try clear hb2); (try clear hk); (try clear hi)) | ((with_reducible refine gate_dst (N := 7) rfl ?_); refine box_event ?hg (N := 7) ?hd (cs := #[.int .i64 0, .int .i64 0, .int .u64 0, .int .u64 0, .int .u64 0, .int .u64 0, .string (⟨#[]⟩ : ByteArray), .int .i64 0, .int .i64 0]) (t := 35) ?hr ?_; (case hd => rfl); (case hg => rfl); (case hr => first | (go_simp; done) | (go_simp; rfl)); intro gb181 hg w12 hbox hb; have n0_ := Aside0.mk (Kd.R_below (Kd.R_elderB (by (with_reducible repeat (first | apply Kd.R_alloc | apply Kd.R_drewN | apply Kd.R_drew)); exact HO_5.out) gb181 (Nat.le_of_eq hg.symm)) hb); have n1_ := Aside0.mk (below_step (belx HB) hb); have n2_ := Aside0.mk (hbox); have n3_ := Aside0.mk ((by rw [hg]; exact (below_size (belx HB)) : w.heap.size ≤ gb181)); have n4_ := Aside0.mk ((by rw [hg]; exact (below_size (belx HB)) : w.heap.size ≤ gb181)); clear HO_5; clear HB; have HO_5 := n0_; have HB := n1_; have BK181 := n2_; have GW181 := n3_; have GE181 := n4_; clear n0_ n1_ n2_ n3_ n4_; clear hb hbox hg; obtain ⟨hcz13_0, hcz13_1, hcz13_2, hcz13_3, hcz13_4, hcz13_5, hcz13_6, hcz13_7, hcz13_8, hfz13_0, hfz13_1, hfz13_2, hfz13_3, hfz13_4, hfz13_5, hfz13_6, hfz13_7, hfz13_8⟩ := cells9 BK181.out) | ((with_reducible refine gate_store (t := 35) (p := 7) rfl ?_); refine store_event (t := 35) (p := 7) (v := ?vo_w14) (w1 := (((((((((w12.setCell ⟨gb181, 0, none⟩ (.int .i64 t170)).setCell ⟨gb181, 1, none⟩ (.int .i64 t171)).setCell ⟨gb181, 2, none⟩ (.int .u64 t172)).setCell ⟨gb181, 3, none⟩ (.int .u64 t173)).setCell ⟨gb181, 4, none⟩ (.int .u64 t174)).setCell ⟨gb181, 5, none⟩ (.int .u64 t175)).setCell ⟨gb181, 6, none⟩ (.string t176)).setCell ⟨gb181, 7, none⟩ (.int .i64 t177)).setCell ⟨gb181, 8, none⟩ (.int .i64 t178))) ?hg ?ho ?hn ?hr ?_; (case ho => rfl); (case hg => rfl); (case hn => rfl); (case hr => first | (go_simp; done) | (go_simp; rfl)); intro w14 hw; have n0_ : Aside0 (Kd.R k35 35 w14 w.heap.size (fun k_ => k_ ≠ gb181) u5 x5_1) := ⟨(by rw [hw]; exact (by (with_reducible repeat (first | apply Kd.R_alloc | apply Kd.R_drewN | apply Kd.R_drew)); exact Kd.R_mono (Kd.R_far (p := ⟨gb181, 8, none⟩) (Kd.R_far (p := ⟨gb181, 7, none⟩) (Kd.R_far (p := ⟨gb181, 6, none⟩) (Kd.R_far (p := ⟨gb181, 5, none⟩) (Kd.R_far (p := ⟨gb181, 4, none⟩) (Kd.R_far (p := ⟨gb181, 3, none⟩) (Kd.R_far (p := ⟨gb181, 2, none⟩) (Kd.R_far (p := ⟨gb181, 1, none⟩) (Kd.R_far (p := ⟨gb181, 0, none⟩) (Kd.R_mono HO_5.out (fun k_ hk => (⟨hk, hk.2⟩ : _ ∧ k_ ≠ gb181))) (fun _ hk => hk.2) (.int .i64 t170)) (fun _ hk => hk.2) (.int .i64 t171)) (fun _ hk => hk.2) (.int .u64 t172)) (fun _ hk => hk.2) (.int .u64 t173)) (fun _ hk => hk.2) (.int .u64 t174)) (fun _ hk => hk.2) (.int .u64 t175)) (fun _ hk => hk.2) (.string t176)) (fun _ hk => hk.2) (.int .i64 t177)) (fun _ hk => hk.2) (.int .i64 t178)) (fun _ hk => hk.1.2)))⟩; have n1_ : Aside0 (w14.heap[gb181]? = some (.cells #[.int .i64 t170, .int .i64 t171, .int .u64 t172, .int .u64 t173, .int .u64 t174, .int .u64 t175, .string t176, .int .i64 t177, .int .i64 t178] 35 (0, 0))) := ⟨(by rw [hw]; exact (by (with_reducible repeat (first | refine blk_drewN ?_ _ | refine blk_drew ?_ | refine blk_alloc ?_ _)); exact put9h BK181.out))⟩; have n2_ : Aside0 (Below w.heap.size w w14) := ⟨(by rw [hw]; exact (belx1 HB GE181))⟩; clear hw; clear HO_5; clear BK181; clear HB; have HO_5 := n0_; have BK181 := n1_; have HB := n2_; clear n0_ n1_ n2_; obtain ⟨hcz15_0, hcz15_1, hcz15_2, hcz15_3, hcz15_4, hcz15_5, hcz15_6, hcz15_7, hcz15_8, hfz15_0, hfz15_1, hfz15_2, hfz15_3, hfz15_4, hfz15_5, hfz15_6, hfz15_7, hfz15_8⟩ := cells9 BK181.out) | ((with_reducible refine gate_builtin (b := .append) (xs := #[.tmp 34, .tmp 36]) rfl ?_); at_builtin; refine Kd.R_append k35 (w0 := w) w.heap.size rfl (.tmp 34) (.tmp 36) 23 35 (.agg #[(.int .i64 0), (.int .i64 0), (.int .u64 0), (.int .u64 0), (.int .u64 0), (.int .u64 0), (.string ⟨#[]⟩), (.int .i64 0), (.int .i64 0)]) 80 rfl Tryd.underlying23 info35 rfl (by decide) (by omega) u5 x5_1 (⟨t170, x6_1, (⟨t172, t173, t174, t175⟩ : S33), t176, t177, t178⟩ : S35) [.int .i64 t170, .int .i64 x6_1, .int .u64 t172, .int .u64 t173, .int .u64 t174, .int .u64 t175, .string t176, .int .i64 t177, .int .i64 t178] (fun k_ => k_ ≠ gb181) (fun _ => False) rfl (by first | (go_simp; done) | (go_simp; rfl)) ?aP (fun _ hk => hk.elim) ?aF ?aO ?aB ?aS ?aL ?_; (case aP => exact k35_mkM _ _ _ (⟨t170, x6_1, (⟨t172, t173, t174, t175⟩ : S33), t176, t177, t178⟩ : S35)); (case aB => exact (belx1 HB GE181)); (case aF => exact (fun k_ hk => Kd.freshB (g := gb181) (o := .cells #[.int .i64 t170, .int .i64 x6_1, .int .u64 t172, .int .u64 t173, .int .u64 t174, .int .u64 t175, .string t176, .int .i64 t177, .int .i64 t178] 35 (0, 0)) (by (with_reducible repeat (first | refine blk_drewN ?_ _ | refine blk_drew ?_ | refine blk_alloc ?_ _)); refine blk_put (cs := #[.int .i64 t170, .int .i64 t171, .int .u64 t172, .int .u64 t173, .int .u64 t174, .int .u64 t175, .string t176, .int .i64 t177, .int .i64 t178]) ?_ 1 _ rfl; (with_reducible repeat (first | refine blk_drewN ?_ _ | refine blk_drew ?_ | refine blk_alloc ?_ _)); exact BK181.out) k_ hk)); (case aO => exact (by (with_reducible repeat (first | apply Kd.R_alloc | apply Kd.R_drewN | apply Kd.R_drew)); exact Kd.R_mono (Kd.R_far (p := ⟨gb181, 1, none⟩) (Kd.R_mono HO_5.out (fun k_ hk => (⟨hk, hk⟩ : _ ∧ k_ ≠ gb181))) (fun _ hk => hk.2) (.int .i64 x6_1)) (fun _ hk => hk.1))); (case aS => exact (below_size (belx1 HB GE181))); (case aL => have := LMc10.out; omega); intro v183 w16 ho hb hg hat; rw [← Ny182.out] at ho; have n0_ := Aside0.mk (blk_grown (g := gb181) (o := .cells #[.int .i64 t170, .int .i64 x6_1, .int .u64 t172, .int .u64 t173, .int .u64 t174, .int .u64 t175, .string t176, .int .i64 t177, .int .i64 t178] 35 (0, 0)) (by (with_reducible repeat (first | refine blk_drewN ?_ _ | refine blk_drew ?_ | refine blk_alloc ?_ _)); refine blk_put (cs := #[.int .i64 t170, .int .i64 t171, .int .u64 t172, .int .u64 t173, .int .u64 t174, .int .u64 t175, .string t176, .int .i64 t177, .int .i64 t178]) ?_ 1 _ rfl; (with_reducible repeat (first | refine blk_drewN ?_ _ | refine blk_drew ?_ | refine blk_alloc ?_ _)); exact BK181.out) hg (Kd.R_away HO_5.out (fun _ hk => hk))); have n1_ := Aside0.mk (hb); have n2_ := Aside0.mk (ho); clear BK181; clear HB; clear HO_5; have BK181 := n0_; have HB := n1_; have HO184 := n2_; clear n0_ n1_ n2_; clear ho hb hg hat))
      go_roundg k1
      case measure => have := HK1.out; omega
      case rel => exact ⟨(y182), (wrap64 (x6_1 + t179)), (by first | rfl | (simp; done) | (simp [*]; done) | exact congrArg (Value.int .i64) (by unfold wrap64; omega)), (by first | exact H' | (subst_vars; exact H')), ⟨by have := HK1.out; omega⟩, ⟨by (with_reducible repeat (first | apply Kd.R_alloc | apply Kd.R_drewN | apply Kd.R_drew)); exact Kd.R_mono HO184.out (fun _ hk => trivial)⟩, ⟨belx1 HB GE181⟩⟩
end Go.Proofs.YtepnbnpgifpfbaaDoor.G
