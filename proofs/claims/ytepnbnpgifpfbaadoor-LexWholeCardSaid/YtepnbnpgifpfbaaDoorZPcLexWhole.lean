/- Lemmas and walks of this claim: PRd. -/
import Derived.Test.YtepnbnpgifpfbaaDoorZPbLexWhole
set_option linter.unusedVariables false
set_option linter.unusedSimpArgs false
namespace Go.Proofs.YtepnbnpgifpfbaaDoor.G
open Go.RowKit Go.Proofs.YtepnbnpgifpfbaaDoorW.PrintWords Go.Proofs.YtepnbnpgifpfbaaDoorW.PrintMore
inductive Rd : List UInt8 → Nat → List S35 → Option (Int × Nat) → Prop
  | nil (i : Nat) : Rd [] i [] none
  | space {l : List UInt8} {i : Nat} {T : List S35} {q : Option (Int × Nat)} (h : Rd l (i + 1) T q) : Rd (32 :: l) i T q
  | tok {c : UInt8} {l : List UInt8} {i : Nat} {T : List S35} {q : Option (Int × Nat)} (hc : c ≠ 32) (hw : (oneS (c :: l)).2.2 = 0) (h : Rd ((c :: l).drop (oneS (c :: l)).2.1) (i + (oneS (c :: l)).2.1) T q) : Rd (c :: l) i (tokAt (oneS (c :: l)).1 i :: T) q
  | err {c : UInt8} {l : List UInt8} {i : Nat} (hc : c ≠ 32) (hw : (oneS (c :: l)).2.2 ≠ 0) : Rd (c :: l) i [] (some ((oneS (c :: l)).2.2, i))
def outOf (out T : List S35) (e : Nat) : Option (Int × Nat) → List S35 × Int × Int
  | none => (out ++ T ++ [endAt e], 0, 0)
  | some (w, p) => ([], w, (p : Int))
theorem rd_total : ∀ (f : Nat) (l : List UInt8) (i : Nat), l.length < f → ∃ T q, Rd l i T q ∧ ∀ out, readS f l i out = outOf out T (i + l.length) q
  | 0, l, i, h => absurd h (Nat.not_lt_zero _)
  | f + 1, [], i, h => ⟨[], none, .nil i, fun out => by simp [readS, outOf]⟩
  | f + 1, c :: l, i, h => by
    rw [List.length_cons] at h
    by_cases hc : c = 32
    · subst hc
      obtain ⟨T, q, h1, h2⟩ := rd_total f l (i + 1) (by omega)
      refine ⟨T, q, .space h1, fun out => ?_⟩
      simp only [readS]
      rw [if_pos trivial, h2, List.length_cons, show i + 1 + l.length = i + (l.length + 1) by omega]
    · by_cases hw : (oneS (c :: l)).2.2 = 0
      · have hl := oneS_len _ hw
        rw [List.length_cons] at hl
        obtain ⟨T, q, h1, h2⟩ := rd_total f ((c :: l).drop (oneS (c :: l)).2.1) (i + (oneS (c :: l)).2.1) (by rw [List.length_drop, List.length_cons]; omega)
        refine ⟨_, q, .tok hc hw h1, fun out => ?_⟩
        simp only [readS]
        rw [if_neg hc, if_pos hw, h2, List.length_drop, List.length_cons, show i + (oneS (c :: l)).2.1 + (l.length + 1 - (oneS (c :: l)).2.1) = i + (l.length + 1) by omega]
        cases q with
        | none => simp [outOf]
        | some q => rfl
      · refine ⟨[], _, .err hc hw, fun out => ?_⟩
        simp only [readS]
        rw [if_neg hc, if_neg hw]
        rfl
theorem rd_det {l : List UInt8} {i : Nat} {T : List S35} {q : Option (Int × Nat)} (h : Rd l i T q) : ∀ {T' : List S35} {q' : Option (Int × Nat)}, Rd l i T' q' → T = T' ∧ q = q' := by
  induction h with
  | nil i => intro T' q' h'; cases h'; exact ⟨rfl, rfl⟩
  | space h ih =>
    intro T' q' h'
    cases h' with
    | space h' => exact ih h'
    | tok hc _ _ => exact absurd rfl hc
    | err hc _ => exact absurd rfl hc
  | tok hc hw h ih =>
    intro T' q' h'
    cases h' with
    | space h' => exact absurd rfl hc
    | tok _ _ h' => obtain ⟨e1, e2⟩ := ih h'; exact ⟨by rw [e1], e2⟩
    | err _ hw' => exact absurd hw hw'
  | err hc hw =>
    intro T' q' h'
    cases h' with
    | space h' => exact absurd rfl hc
    | tok _ hw' _ => exact absurd hw' hw
    | err _ _ => exact ⟨rfl, rfl⟩
theorem readA_rd {l : List UInt8} {T : List S35} {q : Option (Int × Nat)} (h : Rd l 0 T q) : readA l = outOf [] T l.length q := by
  obtain ⟨T', q', h1, h2⟩ := rd_total (l.length + 1) l 0 (Nat.lt_succ_self _)
  obtain ⟨rfl, rfl⟩ := rd_det h h1
  unfold readA
  rw [h2, Nat.zero_add]
theorem rd_of (l : List UInt8) : ∃ T q, Rd l 0 T q ∧ readA l = outOf [] T l.length q := by
  obtain ⟨T, q, h1, _⟩ := rd_total (l.length + 1) l 0 (Nat.lt_succ_self _)
  exact ⟨T, q, h1, readA_rd h1⟩
theorem take_end {c : UInt8} {l : List UInt8} (h : c ∈ l) : l.take ((ahead c l).length + 1) = ahead c l ++ [c] := by
  rcases from1_cases c l with ⟨h1, _⟩ | ⟨_, t, h2, h3⟩
  · exact absurd h h1
  · have key : ∀ A : List UInt8, (A ++ c :: t).take (A.length + 1) = A ++ [c] := by
      intro A
      rw [List.take_append, List.take_of_length_le (by omega), show A.length + 1 - A.length = 1 by omega]
      rfl
    have k : l.take ((ahead c l).length + 1) = (ahead c l ++ c :: t).take ((ahead c l).length + 1) := congrArg (List.take _) h3
    rw [k, key]
theorem ahead_self (c : UInt8) (A r : List UInt8) (h : c ∉ A) : ahead c (A ++ c :: r) = A := by
  induction A with
  | nil => exact ahead_cons_eq c r
  | cons a A ih =>
    simp only [List.mem_cons, not_or] at h
    rw [List.cons_append, ahead_cons_ne _ (Ne.symm h.1), ih h.2]
theorem oneS_local (c : UInt8) (l r : List UInt8) (h : (oneS (c :: l)).2.2 = 0) : oneS ((c :: l).take (oneS (c :: l)).2.1 ++ r) = oneS (c :: l) := by
  have long : ∀ (d : UInt8), d ∈ l → (c :: l).take ((ahead d l).length + 2) ++ r = c :: (ahead d l ++ d :: r) := by
    intro d hd
    rw [List.take_succ_cons, take_end hd, List.cons_append, List.append_assoc]
    rfl
  have mem : ∀ (d : UInt8) , d ∈ ahead d l ++ d :: r := fun d => by simp
  have ah : ∀ (d : UInt8), ahead d (ahead d l ++ d :: r) = ahead d l := fun d => ahead_self d _ r (ahead_not d l)
  by_cases h1 : shortK (c.toNat : Int) ≠ 0
  · have e : ∀ l', oneS (c :: l') = (tkOf (shortK (c.toNat : Int)) noC noT 0 0, 1, 0) := fun l' => by simp only [oneS]; rw [if_pos h1]
    rw [e l, List.take_succ_cons, List.take_zero, List.cons_append, e]
  by_cases h2 : c = 46
  · have e : ∀ l', oneS (c :: l') = (tkOf 1 (cls fun _ => true) noT 0 0, 1, 0) := fun l' => by simp only [oneS]; rw [if_neg h1, if_pos h2]
    rw [e l, List.take_succ_cons, List.take_zero, List.cons_append, e]
  by_cases h3 : c = 60
  · have e : ∀ l', oneS (c :: l') = (if 62 ∈ l' then (match bytesS (ahead 62 l') with | none => errT 2 | some q => (tkOf 1 (cls (Qn (decide ((ahead 62 l').head? = some 94)) q)) noT 0 0, (ahead 62 l').length + 2, 0)) else errT 2) := fun l' => by simp only [oneS]; rw [if_neg h1, if_neg h2, if_pos h3]; rfl
    rw [e l] at h ⊢
    by_cases hm : 62 ∈ l
    · rw [if_pos hm] at h ⊢
      cases hb : bytesS (ahead 62 l) with
      | none => rw [hb] at h; exact absurd h (by simp [errT])
      | some q =>
        simp only
        rw [long 62 hm, e, if_pos (mem 62), ah 62, hb]
    · rw [if_neg hm] at h; exact absurd h (by simp [errT])
  by_cases h4 : c = 34
  · have e : ∀ l', oneS (c :: l') = (if 34 ∈ l' then (if ahead 34 l' = [] then errT 3 else if okU (ahead 34 l') = true then (tkOf 2 noC ⟨(ahead 34 l').toArray⟩ 0 0, (ahead 34 l').length + 2, 0) else errT 3) else errT 3) := fun l' => by simp only [oneS]; rw [if_neg h1, if_neg h2, if_neg h3, if_pos h4]
    rw [e l] at h ⊢
    by_cases hm : 34 ∈ l
    · rw [if_pos hm] at h ⊢
      by_cases hn : ahead 34 l = []
      · rw [if_pos hn] at h; exact absurd h (by simp [errT])
      · rw [if_neg hn] at h ⊢
        by_cases hu : okU (ahead 34 l) = true
        · rw [if_pos hu]
          simp only
          rw [long 34 hm, e, if_pos (mem 34), ah 34, if_neg hn, if_pos hu]
        · rw [if_neg hu] at h; exact absurd h (by simp [errT])
    · rw [if_neg hm] at h; exact absurd h (by simp [errT])
  by_cases h5 : c = 123
  · have e : ∀ l', oneS (c :: l') = (if 125 ∈ l' then (if (repSpec (ahead 125 l')).2.2 = 0 then (tkOf 7 noC noT (repSpec (ahead 125 l')).1 (repSpec (ahead 125 l')).2.1, (ahead 125 l').length + 2, 0) else errT (repSpec (ahead 125 l')).2.2) else errT 4) := fun l' => by simp only [oneS]; rw [if_neg h1, if_neg h2, if_neg h3, if_neg h4, if_pos h5]
    rw [e l] at h ⊢
    by_cases hm : 125 ∈ l
    · rw [if_pos hm] at h ⊢
      by_cases hz : (repSpec (ahead 125 l)).2.2 = 0
      · rw [if_pos hz]
        simp only
        rw [long 125 hm, e, if_pos (mem 125), ah 125, if_pos hz]
      · rw [if_neg hz] at h; exact absurd h hz
    · rw [if_neg hm] at h; exact absurd h (by simp [errT])
  · have e : ∀ l', oneS (c :: l') = errT 1 := fun l' => by simp only [oneS]; rw [if_neg h1, if_neg h2, if_neg h3, if_neg h4, if_neg h5]
    rw [e l] at h; exact absurd h (by simp [errT])
theorem oneS_take (c : UInt8) (l : List UInt8) (n : Nat) (h : (oneS (c :: l)).2.2 = 0) (hn : (oneS (c :: l)).2.1 ≤ n + 1) : oneS (c :: l.take n) = oneS (c :: l) := by
  have h1 := oneS_local c l (((c :: l).take (n + 1)).drop (oneS (c :: l)).2.1) h
  have h2 : (c :: l).take (oneS (c :: l)).2.1 = ((c :: l).take (n + 1)).take (oneS (c :: l)).2.1 := by rw [List.take_take, Nat.min_eq_left hn]
  rw [h2, List.take_append_drop] at h1
  exact h1
def moveT (d : Nat) (t : S35) : S35 := ⟨t.f0, t.f1 + (d : Int), t.f2, t.f3, t.f4, t.f5⟩
def moveQ (d : Nat) : Option (Int × Nat) → Option (Int × Nat)
  | none => none
  | some (w, p) => some (w, p + d)
theorem moveT_tok (t : Tk) (i d : Nat) : moveT d (tokAt t i) = tokAt t (i + d) := by unfold moveT tokAt; simp
theorem rd_move {l : List UInt8} {i : Nat} {T : List S35} {q : Option (Int × Nat)} (d : Nat) (h : Rd l i T q) : Rd l (i + d) (T.map (moveT d)) (moveQ d q) := by
  induction h with
  | nil i => exact .nil _
  | space h ih => exact .space (by rw [Nat.add_right_comm] at ih; exact ih)
  | @tok c l i T q hc hw h ih =>
    rw [List.map_cons, moveT_tok]
    exact .tok hc hw (by rw [Nat.add_right_comm]; exact ih)
  | err hc hw => exact .err hc hw
theorem rd_at_ge {l : List UInt8} {i : Nat} {T : List S35} {q : Option (Int × Nat)} (h : Rd l i T q) : (∀ t ∈ T, ∃ p : Nat, t.f1 = (p : Int) ∧ i ≤ p ∧ p < i + l.length) ∧ ∀ w p, q = some (w, p) → i ≤ p ∧ p < i + l.length := by
  induction h with
  | nil i => exact ⟨fun t ht => (by cases ht), fun w p h => (by cases h)⟩
  | space h ih =>
    refine ⟨fun t ht => ?_, fun w p hq => ?_⟩
    · obtain ⟨p, h1, h2, h3⟩ := ih.1 t ht
      exact ⟨p, h1, by omega, by rw [List.length_cons]; omega⟩
    · have := ih.2 w p hq
      rw [List.length_cons]; omega
  | @tok c l i T q hc hw h ih =>
    have hl := oneS_len _ hw
    refine ⟨fun t ht => ?_, fun w p hq => ?_⟩
    · rcases List.mem_cons.1 ht with rfl | ht
      · exact ⟨i, rfl, Nat.le_refl _, by rw [List.length_cons]; omega⟩
      · obtain ⟨p, h1, h2, h3⟩ := ih.1 t ht
        rw [List.length_drop] at h3
        exact ⟨p, h1, by omega, by omega⟩
    · have := ih.2 w p hq
      rw [List.length_drop] at this
      omega
  | err hc hw =>
    refine ⟨fun t ht => (by cases ht), fun w p hq => ?_⟩
    cases hq
    rw [List.length_cons]; omega
theorem rd_split {l : List UInt8} {i : Nat} {T : List S35} {q : Option (Int × Nat)} (h : Rd l i T q) : ∀ (T1 : List S35) (t : S35) (T2 : List S35), T = T1 ++ t :: T2 → ∃ p : Nat, t.f1 = ((i + p : Nat) : Int) ∧ p < l.length ∧ l[p]? ≠ some 32 ∧ Rd (l.take p) i T1 none ∧ Rd (l.drop p) (i + p) (t :: T2) q := by
  induction h with
  | nil i => intro T1 t T2 e; cases T1 <;> cases e
  | @space l i T q h ih =>
    intro T1 t T2 e
    obtain ⟨p, h1, h2, h3, h4, h5⟩ := ih T1 t T2 e
    refine ⟨p + 1, by rw [h1]; omega, by rw [List.length_cons]; omega, by simpa using h3, ?_, ?_⟩
    · rw [List.take_succ_cons]; exact .space h4
    · rw [List.drop_succ_cons, show i + (p + 1) = i + 1 + p by omega]; exact h5
  | @tok c l i T q hc hw h ih =>
    intro T1 t T2 e
    have hl := oneS_len _ hw
    cases T1 with
    | nil =>
      rw [List.nil_append] at e
      injection e with e1 e2
      subst e1 e2
      refine ⟨0, rfl, by rw [List.length_cons]; omega, by simpa using hc, .nil i, ?_⟩
      exact .tok hc hw h
    | cons t1 T1 =>
      rw [List.cons_append] at e
      injection e with e1 e2
      obtain ⟨p, h1, h2, h3, h4, h5⟩ := ih T1 t T2 e2
      rw [List.length_drop] at h2
      obtain ⟨m, hm⟩ : ∃ m, (oneS (c :: l)).2.1 + p = m + 1 := ⟨(oneS (c :: l)).2.1 + p - 1, by omega⟩
      have et := oneS_take c l m hw (by omega)
      refine ⟨(oneS (c :: l)).2.1 + p, by rw [h1]; omega, by omega, ?_, ?_, ?_⟩
      · rw [List.getElem?_drop] at h3; exact h3
      · subst e1
        rw [hm, List.take_succ_cons]
        have h6 : Rd (c :: l.take m) i (tokAt (oneS (c :: l.take m)).1 i :: T1) none := .tok hc (by rw [et]; exact hw) (by
          rw [et, ← List.take_succ_cons, ← hm, List.drop_take, Nat.add_sub_cancel_left]
          exact h4)
        rw [et] at h6
        exact h6
      · rw [← Nat.add_assoc, ← List.drop_drop]; exact h5
  | err hc hw => intro T1 t T2 e; cases T1 <;> cases e
theorem rd_fault {l : List UInt8} {i : Nat} {T : List S35} {q : Option (Int × Nat)} (h : Rd l i T q) : ∀ (w : Int) (a : Nat), q = some (w, a) → ∃ p : Nat, a = i + p ∧ p < l.length ∧ l[p]? ≠ some 32 ∧ w ≠ 0 ∧ Rd (l.take p) i T none ∧ Rd (l.drop p) (i + p) [] (some (w, a)) := by
  induction h with
  | nil i => intro w a e; cases e
  | @space l i T q h ih =>
    intro w a e
    obtain ⟨p, h1, h2, h3, h0, h4, h5⟩ := ih w a e
    refine ⟨p + 1, by rw [h1]; omega, by rw [List.length_cons]; omega, by simpa using h3, h0, ?_, ?_⟩
    · rw [List.take_succ_cons]; exact .space h4
    · rw [List.drop_succ_cons, show i + (p + 1) = i + 1 + p by omega]; exact h5
  | @tok c l i T q hc hw h ih =>
    intro w a e
    have hl := oneS_len _ hw
    obtain ⟨p, h1, h2, h3, h0, h4, h5⟩ := ih w a e
    rw [List.length_drop] at h2
    obtain ⟨m, hm⟩ : ∃ m, (oneS (c :: l)).2.1 + p = m + 1 := ⟨(oneS (c :: l)).2.1 + p - 1, by omega⟩
    have et := oneS_take c l m hw (by omega)
    refine ⟨(oneS (c :: l)).2.1 + p, by rw [h1]; omega, by omega, ?_, h0, ?_, ?_⟩
    · rw [List.getElem?_drop] at h3; exact h3
    · rw [hm, List.take_succ_cons]
      have h6 : Rd (c :: l.take m) i (tokAt (oneS (c :: l.take m)).1 i :: T) none := .tok hc (by rw [et]; exact hw) (by
        rw [et, ← List.take_succ_cons, ← hm, List.drop_take, Nat.add_sub_cancel_left]
        exact h4)
      rw [et] at h6
      exact h6
    · rw [← Nat.add_assoc, ← List.drop_drop]; exact h5
  | @err c l i hc hw =>
    intro w a e
    cases e
    exact ⟨0, rfl, by rw [List.length_cons]; omega, by simpa using hc, hw, .nil i, .err hc hw⟩
end Go.Proofs.YtepnbnpgifpfbaaDoor.G
