/- Lemmas and walks of this claim: PRd. -/
import Derived.Test.YtepnbnpgifpfbaaDoorZPbLexClass
set_option linter.unusedVariables false
set_option linter.unusedSimpArgs false
namespace Go.Proofs.YtepnbnpgifpfbaaDoor.G
open Go.RowKit Go.Proofs.YtepnbnpgifpfbaaDoorW.PrintWords Go.Proofs.YtepnbnpgifpfbaaDoorW.PrintMore
inductive Rd : List UInt8 → Nat → List S35 → Option (Int × Nat) → Prop
  | nil (i : Nat) : Rd [] i [] none
  | space {l : List UInt8} {i : Nat} {T : List S35} {q : Option (Int × Nat)} (h : Rd l (i + 1) T q) : Rd (32 :: l) i T q
  | tok {c : UInt8} {l : List UInt8} {i : Nat} {T : List S35} {q : Option (Int × Nat)} (hc : c ≠ 32) (hw : (oneS (c :: l)).2.2 = 0) (h : Rd ((c :: l).drop (oneS (c :: l)).2.1) (i + (oneS (c :: l)).2.1) T q) : Rd (c :: l) i (tokAt (oneS (c :: l)).1 i :: T) q
  | err {c : UInt8} {l : List UInt8} {i : Nat} (hc : c ≠ 32) (hw : (oneS (c :: l)).2.2 ≠ 0) : Rd (c :: l) i [] (some ((oneS (c :: l)).2.2, i))
def outOf (out T : List S35) (e : Nat) : Option (Int × Nat) → List S35 × Int × Int
  | none => (out ++ T ++ [endAt e], 0, 0)
  | some (w, p) => ([], w, (p : Int))
theorem rd_total : ∀ (f : Nat) (l : List UInt8) (i : Nat), l.length < f → ∃ T q, Rd l i T q ∧ ∀ out, readS f l i out = outOf out T (i + l.length) q
  | 0, l, i, h => absurd h (Nat.not_lt_zero _)
  | f + 1, [], i, h => ⟨[], none, .nil i, fun out => by simp [readS, outOf]⟩
  | f + 1, c :: l, i, h => by
    rw [List.length_cons] at h
    by_cases hc : c = 32
    · subst hc
      obtain ⟨T, q, h1, h2⟩ := rd_total f l (i + 1) (by omega)
      refine ⟨T, q, .space h1, fun out => ?_⟩
      simp only [readS]
      rw [if_pos trivial, h2, List.length_cons, show i + 1 + l.length = i + (l.length + 1) by omega]
    · by_cases hw : (oneS (c :: l)).2.2 = 0
      · have hl := oneS_len _ hw
        rw [List.length_cons] at hl
        obtain ⟨T, q, h1, h2⟩ := rd_total f ((c :: l).drop (oneS (c :: l)).2.1) (i + (oneS (c :: l)).2.1) (by rw [List.length_drop, List.length_cons]; omega)
        refine ⟨_, q, .tok hc hw h1, fun out => ?_⟩
        simp only [readS]
        rw [if_neg hc, if_pos hw, h2, List.length_drop, List.length_cons, show i + (oneS (c :: l)).2.1 + (l.length + 1 - (oneS (c :: l)).2.1) = i + (l.length + 1) by omega]
        cases q with
        | none => simp [outOf]
        | some q => rfl
      · refine ⟨[], _, .err hc hw, fun out => ?_⟩
        simp only [readS]
        rw [if_neg hc, if_neg hw]
        rfl
theorem rd_det {l : List UInt8} {i : Nat} {T : List S35} {q : Option (Int × Nat)} (h : Rd l i T q) : ∀ {T' : List S35} {q' : Option (Int × Nat)}, Rd l i T' q' → T = T' ∧ q = q' := by
  induction h with
  | nil i => intro T' q' h'; cases h'; exact ⟨rfl, rfl⟩
  | space h ih =>
    intro T' q' h'
    cases h' with
    | space h' => exact ih h'
    | tok hc _ _ => exact absurd rfl hc
    | err hc _ => exact absurd rfl hc
  | tok hc hw h ih =>
    intro T' q' h'
    cases h' with
    | space h' => exact absurd rfl hc
    | tok _ _ h' => obtain ⟨e1, e2⟩ := ih h'; exact ⟨by rw [e1], e2⟩
    | err _ hw' => exact absurd hw hw'
  | err hc hw =>
    intro T' q' h'
    cases h' with
    | space h' => exact absurd rfl hc
    | tok _ hw' _ => exact absurd hw' hw
    | err _ _ => exact ⟨rfl, rfl⟩
theorem readA_rd {l : List UInt8} {T : List S35} {q : Option (Int × Nat)} (h : Rd l 0 T q) : readA l = outOf [] T l.length q := by
  obtain ⟨T', q', h1, h2⟩ := rd_total (l.length + 1) l 0 (Nat.lt_succ_self _)
  obtain ⟨rfl, rfl⟩ := rd_det h h1
  unfold readA
  rw [h2, Nat.zero_add]
theorem ahead_self (c : UInt8) (A r : List UInt8) (h : c ∉ A) : ahead c (A ++ c :: r) = A := by
  induction A with
  | nil => exact ahead_cons_eq c r
  | cons a A ih =>
    simp only [List.mem_cons, not_or] at h
    rw [List.cons_append, ahead_cons_ne _ (Ne.symm h.1), ih h.2]
end Go.Proofs.YtepnbnpgifpfbaaDoor.G
