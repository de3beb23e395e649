/- Lemmas and walks of this claim: PLexWhole. -/
import Derived.Test.YtepnbnpgifpfbaaDoorZGScantlinglaw03LexWhole
import Derived.Test.YtepnbnpgifpfbaaDoorZPcLexWhole
set_option linter.unusedVariables false
set_option linter.unusedSimpArgs false
namespace Go.Proofs.YtepnbnpgifpfbaaDoor.G
open Go.RowKit Go.Proofs.YtepnbnpgifpfbaaDoorW.PrintWords Go.Proofs.YtepnbnpgifpfbaaDoorW.PrintMore
theorem awake_true : scantlinglaw03_awake.f = some true := by kernel_rfl
theorem rd35_nat (L : List S35) (i : Nat) (h : i < L.length) : rd_T35 L (i : Int) = L[i] := by
  unfold rd_T35
  rw [Int.toNat_natCast, List.getD_eq_getElem?_getD, List.getElem?_eq_getElem h]
  rfl
theorem shortK_range (c : Int) (h : shortK c ≠ 0) : 1 ≤ shortK c ∧ shortK c ≤ 9 := by
  unfold shortK at h ⊢
  repeat' split
  all_goals first | decide | (simp_all)
theorem oneS_kind (l : List UInt8) (h : (oneS l).2.2 = 0) : 1 ≤ (oneS l).1.kind ∧ (oneS l).1.kind ≤ 9 := by
  match l, h with
  | [], h => exact absurd h (by decide)
  | c :: l, h =>
    by_cases h1 : shortK (c.toNat : Int) ≠ 0
    · have e : oneS (c :: l) = (tkOf (shortK (c.toNat : Int)) noC noT 0 0, 1, 0) := by simp only [oneS]; rw [if_pos h1]
      rw [e]; exact shortK_range _ h1
    by_cases h2 : c = 46
    · have e : oneS (c :: l) = (tkOf 1 (cls fun _ => true) noT 0 0, 1, 0) := by simp only [oneS]; rw [if_neg h1, if_pos h2]
      rw [e]; exact ⟨Int.le_refl 1, by simp only [tkOf]; decide⟩
    simp only [oneS] at h ⊢
    rw [if_neg h1, if_neg h2] at h ⊢
    by_cases h3 : c = 60
    · rw [if_pos h3] at h ⊢
      by_cases hm : 62 ∈ l
      · rw [if_pos hm] at h ⊢
        cases hb : bytesS (ahead 62 l) with
        | none => rw [hb] at h; exact absurd h (by simp [errT])
        | some q => exact ⟨Int.le_refl 1, by simp only [tkOf]; decide⟩
      · rw [if_neg hm] at h; exact absurd h (by simp [errT])
    rw [if_neg h3] at h ⊢
    by_cases h4 : c = 34
    · rw [if_pos h4] at h ⊢
      by_cases hm : 34 ∈ l
      · rw [if_pos hm] at h ⊢
        by_cases hn : ahead 34 l = []
        · rw [if_pos hn] at h; exact absurd h (by simp [errT])
        · rw [if_neg hn] at h ⊢
          by_cases hu : okU (ahead 34 l) = true
          · rw [if_pos hu]; exact ⟨by simp only [tkOf]; decide, by simp only [tkOf]; decide⟩
          · rw [if_neg hu] at h; exact absurd h (by simp [errT])
      · rw [if_neg hm] at h; exact absurd h (by simp [errT])
    rw [if_neg h4] at h ⊢
    by_cases h5 : c = 123
    · rw [if_pos h5] at h ⊢
      by_cases hm : 125 ∈ l
      · rw [if_pos hm] at h ⊢
        by_cases hz : (repSpec (ahead 125 l)).2.2 = 0
        · rw [if_pos hz]; exact ⟨by simp only [tkOf]; decide, by simp only [tkOf]; decide⟩
        · rw [if_neg hz] at h; exact absurd h hz
      · rw [if_neg hm] at h; exact absurd h (by simp [errT])
    rw [if_neg h5] at h; exact absurd h (by simp [errT])
theorem rd_kind {l : List UInt8} {i : Nat} {T : List S35} {q : Option (Int × Nat)} (h : Rd l i T q) : ∀ t ∈ T, 1 ≤ t.f0 ∧ t.f0 ≤ 9 := by
  induction h with
  | nil i => intro t ht; cases ht
  | space h ih => exact ih
  | tok hc hw h ih =>
    intro t ht
    rcases List.mem_cons.1 ht with rfl | ht
    · exact oneS_kind _ hw
    · exact ih t ht
  | err hc hw => intro t ht; cases ht
theorem rd_blank {l : List UInt8} {i : Nat} {T : List S35} {q : Option (Int × Nat)} (h : Rd l i T q) : T = [] → q = none → ∀ j, j < l.length → l[j]? = some 32 := by
  induction h with
  | nil i => intro _ _ j hj; cases hj
  | space h ih =>
    intro hT hq j hj
    cases j with
    | zero => rfl
    | succ j => rw [List.length_cons] at hj; simpa using ih hT hq j (by omega)
  | tok hc hw h ih => intro hT; cases hT
  | err hc hw => intro _ hq; cases hq
theorem split_at (T : List S35) (j : Nat) (h : j < T.length) : T = T.take j ++ T[j] :: T.drop (j + 1) := by
  rw [← List.drop_eq_getElem_cons h, List.take_append_drop]
theorem LexWhole : scantlinglaw03_LexWhole.Pure := by
  intro s hs
  refine Ev.rounds (g := fun k => scantlinglaw03_LexWhole.f k s) ?_
  unfold scantlinglaw03_LexWhole.f
  simp only [awake_true, Option.bind_some, if_true]
  by_cases hb : s.size ≤ 3000
  case neg =>
    rw [show decide ((s.size : Int) > 3000) = true from decide_eq_true (by omega)]
    exact Ev.step (f := fun _ => some true) (fun k => by rw [scantlinglaw03_LexWhole.j0, if_pos rfl, awake_true]; rfl) (Ev.now _)
  rw [show decide ((s.size : Int) > 3000) = false from decide_eq_false (by omega)]
  obtain ⟨T, q, r, a⟩ := rd_of (bs s)
  have e := read_eq s hb
  rw [a] at e
  refine Ev.step (f := fun k => (lex_Read.f k s).bind fun bt299 => (if bt299.2.1 = 0 then (if bt299.2.2 = 0 then (if (bt299.1.length : Int) = 0 then (scantlinglaw03_LexWhole.j2 k s bt299.1 true) else (if 0 ≤ (wrap64 ((bt299.1.length : Int) - 1)) then (if (wrap64 ((bt299.1.length : Int) - 1)) < (bt299.1.length : Int) then (if ((rd_T35 bt299.1 (wrap64 ((bt299.1.length : Int) - 1))).f0) = 10 then (scantlinglaw03_LexWhole.j2 k s bt299.1 (((rd_T35 bt299.1 (wrap64 ((bt299.1.length : Int) - 1))).f1) != (s.size : Int))) else (scantlinglaw03_LexWhole.j2 k s bt299.1 true)) else (none)) else (none))) else (scantlinglaw03_LexWhole.j2 k s bt299.1 true)) else (if (bt299.1.length : Int) = 0 then (if bt299.2.2 < 0 then (scantlinglaw03_LexWhole.j1 k s bt299.2.1 bt299.2.2 true) else (if bt299.2.2 ≥ (s.size : Int) then (scantlinglaw03_LexWhole.j1 k s bt299.2.1 bt299.2.2 true) else (if 0 ≤ bt299.2.2 then (if bt299.2.2 < (s.size : Int) then (scantlinglaw03_LexWhole.j1 k s bt299.2.1 bt299.2.2 ((bt s bt299.2.2) == 32)) else (none)) else (none)))) else (scantlinglaw03_LexWhole.j1 k s bt299.2.1 bt299.2.2 true)))) (fun k => by rw [scantlinglaw03_LexWhole.j0, if_neg (by decide)]) ?_
  refine Ev.bind e ?_
  cases q with
  | some q =>
    obtain ⟨w, at_⟩ := q
    obtain ⟨p, hp, hpl, h32, hw0, ra, rb⟩ := rd_fault r w at_ rfl
    rw [Nat.zero_add] at hp rb
    subst hp
    rw [bs_len] at hpl
    have hwf := eq_false hw0
    have z1 : ¬ (at_ : Int) < 0 := by omega
    have z2 : ¬ (at_ : Int) ≥ (s.size : Int) := by omega
    have z3 : (0 : Int) ≤ (at_ : Int) := by omega
    have z4 : (at_ : Int) < (s.size : Int) := by omega
    have z5 : (at_ : Int) ≤ (s.size : Int) := by omega
    have hbt : (bt s (at_ : Int) == 32) = false := by
      rw [beq_eq_false_iff_ne, bt_nat, bN]
      intro h
      apply h32
      rw [bs_get s at_ hpl]
      congr 1
      apply UInt8.toNat_inj.1
      show (s.get! at_).toNat = 32
      omega
    simp only [outOf, hwf, if_false, List.length_nil, Int.ofNat_zero, if_true, if_neg z1, if_neg z2, if_pos z3, if_pos z4, hbt]
    have e1 := read_eq (s.extract 0 at_) (by rw [ByteArray.size_extract]; omega)
    have e2 := read_eq (s.extract at_ s.size) (by rw [ByteArray.size_extract]; omega)
    have b1 : bs (s.extract 0 at_) = (bs s).take at_ := by rw [bs_ext]; rfl
    rw [b1, readA_rd ra] at e1
    rw [bs_tail] at e2
    obtain ⟨T', q', r', a'⟩ := rd_of ((bs s).drop at_)
    have rm := rd_move at_ r'
    rw [Nat.zero_add] at rm
    obtain ⟨d1, d2⟩ := rd_det rb rm
    have hT' : T' = [] := List.map_eq_nil_iff.1 d1.symm
    have hq' : q' = some (w, 0) := by
      cases q' with
      | none => cases d2
      | some x =>
        obtain ⟨w', p'⟩ := x
        simp only [moveQ, Option.some.injEq, Prod.mk.injEq] at d2
        obtain ⟨rfl, h⟩ := d2
        obtain rfl : p' = 0 := by omega
        rfl
    rw [a', hT', hq'] at e2
    refine Ev.step (f := fun k => (lex_Read.f k (s.extract 0 at_)).bind fun bt304 => ((lex_Read.f k (s.extract at_ s.size)).bind fun bt309 => (if bt304.2.1 = 0 then (if bt309.2.1 = w then (some (bt309.2.2 == 0)) else (some false)) else (some false)))) (fun k => by rw [scantlinglaw03_LexWhole.j1, if_neg (by decide), if_pos z3, if_pos z5, Int.toNat_natCast]) ?_
    refine Ev.bind e1 (Ev.bind e2 ?_)
    simp only [outOf, if_true]
    exact Ev.now _
  | none =>
    have ho : outOf [] T (bs s).length none = (T ++ [endAt s.size], 0, 0) := by simp [outOf, bs_len]
    rw [ho]
    have hTl : T.length ≤ 3000 := by
      have := readA_len (bs s)
      rw [a, ho, List.length_append, List.length_singleton, bs_len] at this
      omega
    have hLl : (T ++ [endAt s.size]).length = T.length + 1 := by rw [List.length_append, List.length_singleton]
    have y1 : ¬ (((T ++ [endAt s.size]).length : Nat) : Int) = 0 := by omega
    have hw1 := Aside0.mk (show wrap64 (((T ++ [endAt s.size]).length : Int) - 1) = ((T.length : Nat) : Int) by rw [w64 (by omega) (by omega)]; omega)
    have y2 : (0 : Int) ≤ ((T.length : Nat) : Int) := by omega
    have y3 : ((T.length : Nat) : Int) < ((T ++ [endAt s.size]).length : Int) := by omega
    have hlast : rd_T35 (T ++ [endAt s.size]) ((T.length : Nat) : Int) = endAt s.size := by
      rw [rd35_nat _ _ (by omega)]
      simp
    have y4 : ((endAt s.size).f1 != (s.size : Int)) = false := by rw [bne_eq_false_iff_eq]; rfl
    have y5 : (endAt s.size).f0 = 10 := rfl
    simp only [if_true, if_neg y1, hw1.out, if_pos y2, if_pos y3, hlast, y4, y5]
    refine Ev.step (fun k => by rw [scantlinglaw03_LexWhole.j2, if_neg (by decide)]) ?_
    have place : ∀ j (hj : j < T.length), ∃ p : Nat, T[j].f1 = (p : Int) ∧ p < s.size ∧ bt s (p : Int) ≠ 32 ∧ (∀ j' (hj' : j' < j), ∃ p' : Nat, (T[j']'(by omega)).f1 = (p' : Int) ∧ p' < p) ∧ (j = 0 → ∀ i, i < p → bt s (i : Int) = 32) := by
      intro j hj
      obtain ⟨p, h1, h2, h3, h4, h5⟩ := rd_split r (T.take j) T[j] (T.drop (j + 1)) (split_at T j hj)
      rw [Nat.zero_add] at h1
      rw [bs_len] at h2
      refine ⟨p, h1, h2, ?_, ?_, ?_⟩
      · rw [bt_nat, bN]
        intro h
        apply h3
        rw [bs_get s p h2]
        congr 1
        apply UInt8.toNat_inj.1
        show (s.get! p).toNat = 32
        omega
      · intro j' hj'
        have hm : T[j']'(by omega) ∈ T.take j := by
          rw [List.mem_take_iff_getElem]
          exact ⟨j', by omega, rfl⟩
        obtain ⟨p', g1, g2, g3⟩ := (rd_at_ge h4).1 _ hm
        rw [List.length_take, bs_len] at g3
        exact ⟨p', g1, by omega⟩
      · intro hj0 i hi
        subst hj0
        have hbl := rd_blank h4 rfl rfl i (by rw [List.length_take, bs_len]; omega)
        rw [List.getElem?_take, if_pos hi, bs_get s i (by omega)] at hbl
        rw [bt_nat, bN, Option.some.inj hbl]
        rfl
    obtain ⟨P, hP1, hP2, hP3⟩ : ∃ P : Nat, (rd_T35 (T ++ [endAt s.size]) 0).f1 = (P : Int) ∧ P ≤ s.size ∧ ∀ i, i < P → bt s (i : Int) = 32 := by
      by_cases h0 : 0 < T.length
      · obtain ⟨p, h1, h2, _, _, h5⟩ := place 0 h0
        refine ⟨p, ?_, by omega, h5 rfl⟩
        have := rd35_nat (T ++ [endAt s.size]) 0 (by omega)
        rw [show ((0 : Nat) : Int) = 0 from rfl] at this
        rw [this, List.getElem_append_left h0]
        exact h1
      · have hT0 : T = [] := List.eq_nil_of_length_eq_zero (by omega)
        subst hT0
        refine ⟨s.size, rfl, Nat.le_refl _, fun i hi => ?_⟩
        have hbl := rd_blank r rfl rfl i (by rw [bs_len]; exact hi)
        rw [bs_get s i hi] at hbl
        rw [bt_nat, bN, Option.some.inj hbl]
        rfl
    have l1 : ∀ (d i : Nat), i + d = P → Ev (fun k => scantlinglaw03_LexWhole.l1 k s (T ++ [endAt s.size]) (i : Int)) true := by
      intro d
      induction d with
      | zero =>
        intro i hi
        refine Ev.step (f := fun _ => some true) (fun k => ?_) (Ev.now _)
        rw [scantlinglaw03_LexWhole.l1, if_pos (by omega), hP1, if_neg (by omega)]
      | succ d ih =>
        intro i hi
        have hw : wrap64 ((i : Int) + 1) = ((i + 1 : Nat) : Int) := w64 (by omega) (by omega)
        refine Ev.step (fun k => ?_) (ih (i + 1) (by omega))
        rw [scantlinglaw03_LexWhole.l1, if_pos (by omega), hP1, if_pos (by omega), if_pos (by omega), if_pos (by omega), if_pos (hP3 i (by omega)), hw]
    have stop : Ev (fun k => scantlinglaw03_LexWhole.l0 k s (T ++ [endAt s.size]) ((T.length + 1 : Nat) : Int)) true := by
      refine Ev.step (fun k => ?_) (l1 P 0 (Nat.zero_add _))
      rw [scantlinglaw03_LexWhole.l0, if_neg (by omega)]
      rfl
    have l0 : ∀ (d i : Nat), i + d = T.length + 1 → Ev (fun k => scantlinglaw03_LexWhole.l0 k s (T ++ [endAt s.size]) (i : Int)) true := by
      intro d
      induction d with
      | zero =>
        intro i hi
        obtain rfl : i = T.length + 1 := by omega
        exact stop
      | succ d ih =>
        intro i hi
        have hw := Aside0.mk (show wrap64 ((i : Int) + 1) = ((i + 1 : Nat) : Int) from w64 (by omega) (by omega))
        have hwm := Aside0.mk (show 0 < i → wrap64 ((i : Int) - 1) = ((i - 1 : Nat) : Int) from fun h => by rw [w64 (by omega) (by omega)]; omega)
        refine Ev.step (fun k => ?_) (ih (i + 1) (by omega))
        rw [scantlinglaw03_LexWhole.l0, if_pos (by omega), if_pos (by omega), rd35_nat _ _ (by omega), hw1.out]
        by_cases hT : i < T.length
        · obtain ⟨p, h1, h2, h3, h4, _⟩ := place i hT
          obtain ⟨k1, k2⟩ := rd_kind r T[i] (List.getElem_mem hT)
          rw [List.getElem_append_left hT]
          have t1 : ¬ T[i].f0 < 1 := by omega
          have t2 : ¬ T[i].f0 > 10 := by omega
          have t3 : ¬ ((T[i].f0 == 10) != ((i : Int) == ((T.length : Nat) : Int))) = true := by
            have a1 : (T[i].f0 == 10) = false := by rw [beq_eq_false_iff_ne]; omega
            have a2 : ((i : Int) == ((T.length : Nat) : Int)) = false := by rw [beq_eq_false_iff_ne]; omega
            rw [a1, a2]; decide
          have t4 : ¬ T[i].f0 = 10 := by omega
          have t5 : (0 : Int) ≤ T[i].f1 := by omega
          have t6 : T[i].f1 < (s.size : Int) := by omega
          have t7 : ¬ bt s T[i].f1 = 32 := by rw [h1]; exact h3
          rw [if_neg t1, if_neg t2, if_neg t3]
          by_cases hi0 : 0 < i
          · obtain ⟨p', g1, g2⟩ := h4 (i - 1) (by omega)
            rw [if_pos (by omega), hwm.out hi0, if_pos (by omega), if_pos (by omega), rd35_nat _ _ (by omega), List.getElem_append_left (by omega)]
            rw [if_neg (by omega), if_neg t4, if_pos t5, if_pos t6, if_neg t7, hw.out]
          · rw [if_neg (by omega), if_neg t4, if_pos t5, if_pos t6, if_neg t7, hw.out]
        · obtain rfl : i = T.length := by omega
          have hE : (T ++ [endAt s.size])[T.length]'(by omega) = endAt s.size := by simp
          rw [hE]
          have t3 : ¬ (((endAt s.size).f0 == 10) != (((T.length : Nat) : Int) == ((T.length : Nat) : Int))) = true := by
            rw [beq_self_eq_true]
            show ¬ (((10 : Int) == 10) != true) = true
            decide
          rw [if_neg (by rw [y5]; decide), if_neg (by rw [y5]; decide), if_neg t3]
          have hf1 : (endAt s.size).f1 = (s.size : Int) := rfl
          by_cases hi0 : 0 < T.length
          · obtain ⟨p', g1, g2, _⟩ := place (T.length - 1) (by omega)
            rw [if_pos (by omega), hwm.out hi0, if_pos (by omega), if_pos (by omega), rd35_nat _ _ (by omega), List.getElem_append_left (by omega)]
            rw [if_neg (by rw [hf1]; omega), if_pos y5, hw.out]
          · rw [if_neg (by omega), if_pos y5, hw.out]
    exact l0 (T.length + 1) 0 (Nat.zero_add _)
end Go.Proofs.YtepnbnpgifpfbaaDoor.G
