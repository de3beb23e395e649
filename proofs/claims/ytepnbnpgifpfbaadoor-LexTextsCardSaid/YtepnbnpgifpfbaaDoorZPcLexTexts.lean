/- Lemmas and walks of this claim: PUtf, PRd. -/
import Derived.Test.YtepnbnpgifpfbaaDoorZPbLexTexts
set_option linter.unusedVariables false
set_option linter.unusedSimpArgs false
namespace Go.Proofs.YtepnbnpgifpfbaaDoor.G
open Go.RowKit Go.Proofs.YtepnbnpgifpfbaaDoorW.PrintWords Go.Proofs.YtepnbnpgifpfbaaDoorW.PrintMore
def u8L (l : List UInt8) : Option Nat := u8N l.length (l.getD 0 0).toNat (l.getD 1 0).toNat (l.getD 2 0).toNat (l.getD 3 0).toNat
def okL : Nat → List UInt8 → Bool
  | 0, _ => true
  | _ + 1, [] => true
  | f + 1, b :: l => match u8L (b :: l) with | none => false | some w => okL f ((b :: l).drop w)
def valid (l : List UInt8) : Bool := okL l.length l
theorem bN_drop (s : ByteArray) (pos j : Nat) : (((bs s).drop pos).getD j 0).toNat = bN s (pos + j) := by
  rw [List.getD_eq_getElem?_getD, List.getElem?_drop]
  by_cases h : pos + j < s.size
  · rw [bs_get s _ h]; rfl
  · rw [List.getElem?_eq_none (by rw [bs_len]; omega)]
    unfold bN
    rw [get_out s _ h]
    rfl
theorem utf8_okL (s : ByteArray) : ∀ (f pos : Nat), utf8From s f pos = okL f ((bs s).drop pos)
  | 0, pos => rfl
  | f + 1, pos => by
    unfold utf8From
    by_cases hp : pos < s.size
    · rw [if_pos hp, decodeGo_ext s pos hp]
      have hd := drop_get s pos hp
      have hu : u8L ((bs s).drop pos) = okN (Utf8.decode s pos) := by
        unfold u8L
        rw [bN_drop, bN_drop, bN_drop, bN_drop, List.length_drop, bs_len, Nat.add_zero]
        rw [u8N_eq _ _ _ _ _ (by omega) (bN_lt _ _) (bN_lt _ _) (bN_lt _ _) (bN_lt _ _), Lib.decode_at s pos]
        rfl
      have e : okL (f + 1) ((bs s).drop pos) = (match u8L ((bs s).drop pos) with | none => false | some w => okL f (((bs s).drop pos).drop w)) := by rw [hd]; rfl
      rw [e, hu]
      unfold okN
      by_cases h1 : (Utf8.decode s pos).1 = 65533
      · rw [if_pos h1]
        by_cases h2 : (Utf8.decode s pos).2 = 1
        · rw [if_pos h2, if_pos ⟨h1, h2⟩]
        · rw [if_neg h2, if_neg (fun h => h2 h.2), utf8_okL s f]
          simp only [List.drop_drop]
      · rw [if_neg h1, if_neg (fun h => h1 h.1), utf8_okL s f]
        simp only [List.drop_drop]
    · rw [if_neg hp, drop_end s pos (by omega)]
      rfl
theorem utf8_valid (s : ByteArray) : lex_Utf8.f s = some (valid (bs s)) := by
  unfold lex_Utf8.f valid
  rw [utf8_okL, List.drop_zero, bs_len]
theorem okU_valid (l : List UInt8) : okU l = valid l := by
  unfold okU valid
  rw [utf8_okL, List.drop_zero]
theorem u8N_mono (n n' b0 b1 b2 b3 b1' b2' b3' w : Nat) (hpos : 1 ≤ n) (h : u8N n b0 b1 b2 b3 = some w) (hn : n ≤ n') (h1 : 1 < n → b1' = b1) (h2 : 2 < n → b2' = b2) (h3 : 3 < n → b3' = b3) :
    w ≤ n ∧ 1 ≤ w ∧ u8N n' b0 b1' b2' b3' = some w := by
  unfold u8N at h
  by_cases c0 : b0 < 128
  · rw [if_pos c0] at h; cases h
    refine ⟨hpos, by decide, ?_⟩
    unfold u8N; rw [if_pos c0]
  rw [if_neg c0] at h
  by_cases c1 : 194 ≤ b0 ∧ b0 ≤ 223 ∧ (1 < n ∧ 128 ≤ b1 ∧ b1 ≤ 191)
  · rw [if_pos c1] at h; cases h
    have e1 := h1 c1.2.2.1
    subst e1
    refine ⟨by omega, by decide, ?_⟩
    unfold u8N; rw [if_neg c0, if_pos (by omega)]
  rw [if_neg c1] at h
  by_cases c2 : b0 = 224 ∧ (1 < n ∧ 160 ≤ b1 ∧ b1 ≤ 191) ∧ (2 < n ∧ 128 ≤ b2 ∧ b2 ≤ 191)
  · rw [if_pos c2] at h; cases h
    have e1 := h1 c2.2.1.1; have e2 := h2 c2.2.2.1
    subst e1 e2
    refine ⟨by omega, by decide, ?_⟩
    unfold u8N; rw [if_neg c0, if_neg (by omega), if_pos (by omega)]
  rw [if_neg c2] at h
  by_cases c3 : ((225 ≤ b0 ∧ b0 ≤ 236) ∨ b0 = 238 ∨ b0 = 239) ∧ (1 < n ∧ 128 ≤ b1 ∧ b1 ≤ 191) ∧ (2 < n ∧ 128 ≤ b2 ∧ b2 ≤ 191)
  · rw [if_pos c3] at h; cases h
    have e1 := h1 c3.2.1.1; have e2 := h2 c3.2.2.1
    subst e1 e2
    refine ⟨by omega, by decide, ?_⟩
    unfold u8N; rw [if_neg c0, if_neg (by omega), if_neg (by omega), if_pos (by omega)]
  rw [if_neg c3] at h
  by_cases c4 : b0 = 237 ∧ (1 < n ∧ 128 ≤ b1 ∧ b1 ≤ 159) ∧ (2 < n ∧ 128 ≤ b2 ∧ b2 ≤ 191)
  · rw [if_pos c4] at h; cases h
    have e1 := h1 c4.2.1.1; have e2 := h2 c4.2.2.1
    subst e1 e2
    refine ⟨by omega, by decide, ?_⟩
    unfold u8N; rw [if_neg c0, if_neg (by omega), if_neg (by omega), if_neg (by omega), if_pos (by omega)]
  rw [if_neg c4] at h
  by_cases c5 : b0 = 240 ∧ (1 < n ∧ 144 ≤ b1 ∧ b1 ≤ 191) ∧ (2 < n ∧ 128 ≤ b2 ∧ b2 ≤ 191) ∧ (3 < n ∧ 128 ≤ b3 ∧ b3 ≤ 191)
  · rw [if_pos c5] at h; cases h
    have e1 := h1 c5.2.1.1; have e2 := h2 c5.2.2.1.1; have e3 := h3 c5.2.2.2.1
    subst e1 e2 e3
    refine ⟨by omega, by decide, ?_⟩
    unfold u8N; rw [if_neg c0, if_neg (by omega), if_neg (by omega), if_neg (by omega), if_neg (by omega), if_pos (by omega)]
  rw [if_neg c5] at h
  by_cases c6 : 241 ≤ b0 ∧ b0 ≤ 243 ∧ (1 < n ∧ 128 ≤ b1 ∧ b1 ≤ 191) ∧ (2 < n ∧ 128 ≤ b2 ∧ b2 ≤ 191) ∧ (3 < n ∧ 128 ≤ b3 ∧ b3 ≤ 191)
  · rw [if_pos c6] at h; cases h
    have e1 := h1 c6.2.2.1.1; have e2 := h2 c6.2.2.2.1.1; have e3 := h3 c6.2.2.2.2.1
    subst e1 e2 e3
    refine ⟨by omega, by decide, ?_⟩
    unfold u8N; rw [if_neg c0, if_neg (by omega), if_neg (by omega), if_neg (by omega), if_neg (by omega), if_neg (by omega), if_pos (by omega)]
  rw [if_neg c6] at h
  by_cases c7 : b0 = 244 ∧ (1 < n ∧ 128 ≤ b1 ∧ b1 ≤ 143) ∧ (2 < n ∧ 128 ≤ b2 ∧ b2 ≤ 191) ∧ (3 < n ∧ 128 ≤ b3 ∧ b3 ≤ 191)
  · rw [if_pos c7] at h; cases h
    have e1 := h1 c7.2.1.1; have e2 := h2 c7.2.2.1.1; have e3 := h3 c7.2.2.2.1
    subst e1 e2 e3
    refine ⟨by omega, by decide, ?_⟩
    unfold u8N; rw [if_neg c0, if_neg (by omega), if_neg (by omega), if_neg (by omega), if_neg (by omega), if_neg (by omega), if_neg (by omega), if_pos (by omega)]
  rw [if_neg c7] at h
  cases h
theorem u8L_app {l : List UInt8} {w : Nat} (hl : l ≠ []) (h : u8L l = some w) (r : List UInt8) : w ≤ l.length ∧ 1 ≤ w ∧ u8L (l ++ r) = some w := by
  have hpos : 1 ≤ l.length := List.length_pos_iff.2 hl
  have g : ∀ j, j < l.length → (l ++ r).getD j 0 = l.getD j 0 := by
    intro j hj
    rw [List.getD_eq_getElem?_getD, List.getD_eq_getElem?_getD, List.getElem?_append_left hj]
  unfold u8L at h ⊢
  rw [g 0 (by omega)]
  exact u8N_mono _ _ _ _ _ _ _ _ _ _ hpos h (by rw [List.length_append]; omega) (fun q => by rw [g 1 q]) (fun q => by rw [g 2 q]) (fun q => by rw [g 3 q])
theorem okL_fuel : ∀ (f f' : Nat) (l : List UInt8), l.length ≤ f → l.length ≤ f' → okL f l = okL f' l
  | f, f', [], _, _ => by cases f <;> cases f' <;> rfl
  | 0, _, b :: l, h, _ => by rw [List.length_cons] at h; omega
  | _ + 1, 0, b :: l, _, h => by rw [List.length_cons] at h; omega
  | f + 1, f' + 1, b :: l, h, h' => by
    simp only [okL]
    cases hu : u8L (b :: l) with
    | none => rfl
    | some w =>
      have hw := (u8L_app (by simp) hu []).2.1
      rw [List.length_cons] at h h'
      exact okL_fuel f f' _ (by rw [List.length_drop, List.length_cons]; omega) (by rw [List.length_drop, List.length_cons]; omega)
theorem valid_step (b : UInt8) (l : List UInt8) : valid (b :: l) = (match u8L (b :: l) with | none => false | some w => valid ((b :: l).drop w)) := by
  unfold valid
  rw [List.length_cons]
  simp only [okL]
  cases hu : u8L (b :: l) with
  | none => rfl
  | some w =>
    have hw := (u8L_app (by simp) hu []).2.1
    simp only
    exact okL_fuel _ _ _ (by rw [List.length_drop, List.length_cons]; omega) (Nat.le_refl _)
theorem valid_app : ∀ (n : Nat) (l : List UInt8), l.length ≤ n → valid l = true → ∀ r, valid (l ++ r) = valid r
  | _, [], _, _, r => rfl
  | 0, b :: l, h, _, r => by rw [List.length_cons] at h; omega
  | n + 1, b :: l, h, hv, r => by
    rw [valid_step] at hv
    cases hu : u8L (b :: l) with
    | none => rw [hu] at hv; cases hv
    | some w =>
      rw [hu] at hv
      obtain ⟨h1, h2, h3⟩ := u8L_app (by simp) hu r
      rw [List.cons_append] at h3 ⊢
      rw [valid_step, h3]
      simp only
      rw [← List.cons_append, List.drop_append_of_le_length h1]
      rw [List.length_cons] at h
      exact valid_app n _ (by rw [List.length_drop, List.length_cons]; omega) hv r
theorem valid_head {b : UInt8} {l : List UInt8} (h : valid (b :: l) = true) : b.toNat < 128 ∨ 194 ≤ b.toNat := by
  rw [valid_step] at h
  cases hu : u8L (b :: l) with
  | none => rw [hu] at h; cases h
  | some w =>
    unfold u8L at hu
    have e : ((b :: l).getD 0 0).toNat = b.toNat := rfl
    rw [e] at hu
    generalize b.toNat = x at *
    unfold u8N at hu
    by_cases c : x < 128
    · exact .inl c
    · refine .inr ?_
      rcases Nat.lt_or_ge x 194 with q | q
      · exfalso
        rw [if_neg c, if_neg (by omega), if_neg (by omega), if_neg (by omega), if_neg (by omega), if_neg (by omega), if_neg (by omega), if_neg (by omega)] at hu
        cases hu
      · exact q
theorem valid_255 : valid [255] = false := by decide
theorem valid_195 (b : UInt8) (l : List UInt8) (h : b.toNat < 128 ∨ 194 ≤ b.toNat) : valid (195 :: b :: l) = false := by
  rw [valid_step]
  have hu : u8L (195 :: b :: l) = none := by
    unfold u8L
    have e0 : ((195 :: b :: l).getD 0 0).toNat = 195 := rfl
    have e1 : ((195 :: b :: l).getD 1 0).toNat = b.toNat := rfl
    rw [e0, e1]
    generalize b.toNat = x at *
    unfold u8N
    rw [if_neg (by omega), if_neg (by omega), if_neg (by omega), if_neg (by omega), if_neg (by omega), if_neg (by omega), if_neg (by omega), if_neg (by omega)]
  rw [hu]
end Go.Proofs.YtepnbnpgifpfbaaDoor.G
namespace Go.Proofs.YtepnbnpgifpfbaaDoor.G
open Go.RowKit Go.Proofs.YtepnbnpgifpfbaaDoorW.PrintWords Go.Proofs.YtepnbnpgifpfbaaDoorW.PrintMore
inductive Rd : List UInt8 → Nat → List S35 → Option (Int × Nat) → Prop
  | nil (i : Nat) : Rd [] i [] none
  | space {l : List UInt8} {i : Nat} {T : List S35} {q : Option (Int × Nat)} (h : Rd l (i + 1) T q) : Rd (32 :: l) i T q
  | tok {c : UInt8} {l : List UInt8} {i : Nat} {T : List S35} {q : Option (Int × Nat)} (hc : c ≠ 32) (hw : (oneS (c :: l)).2.2 = 0) (h : Rd ((c :: l).drop (oneS (c :: l)).2.1) (i + (oneS (c :: l)).2.1) T q) : Rd (c :: l) i (tokAt (oneS (c :: l)).1 i :: T) q
  | err {c : UInt8} {l : List UInt8} {i : Nat} (hc : c ≠ 32) (hw : (oneS (c :: l)).2.2 ≠ 0) : Rd (c :: l) i [] (some ((oneS (c :: l)).2.2, i))
def outOf (out T : List S35) (e : Nat) : Option (Int × Nat) → List S35 × Int × Int
  | none => (out ++ T ++ [endAt e], 0, 0)
  | some (w, p) => ([], w, (p : Int))
theorem rd_total : ∀ (f : Nat) (l : List UInt8) (i : Nat), l.length < f → ∃ T q, Rd l i T q ∧ ∀ out, readS f l i out = outOf out T (i + l.length) q
  | 0, l, i, h => absurd h (Nat.not_lt_zero _)
  | f + 1, [], i, h => ⟨[], none, .nil i, fun out => by simp [readS, outOf]⟩
  | f + 1, c :: l, i, h => by
    rw [List.length_cons] at h
    by_cases hc : c = 32
    · subst hc
      obtain ⟨T, q, h1, h2⟩ := rd_total f l (i + 1) (by omega)
      refine ⟨T, q, .space h1, fun out => ?_⟩
      simp only [readS]
      rw [if_pos trivial, h2, List.length_cons, show i + 1 + l.length = i + (l.length + 1) by omega]
    · by_cases hw : (oneS (c :: l)).2.2 = 0
      · have hl := oneS_len _ hw
        rw [List.length_cons] at hl
        obtain ⟨T, q, h1, h2⟩ := rd_total f ((c :: l).drop (oneS (c :: l)).2.1) (i + (oneS (c :: l)).2.1) (by rw [List.length_drop, List.length_cons]; omega)
        refine ⟨_, q, .tok hc hw h1, fun out => ?_⟩
        simp only [readS]
        rw [if_neg hc, if_pos hw, h2, List.length_drop, List.length_cons, show i + (oneS (c :: l)).2.1 + (l.length + 1 - (oneS (c :: l)).2.1) = i + (l.length + 1) by omega]
        cases q with
        | none => simp [outOf]
        | some q => rfl
      · refine ⟨[], _, .err hc hw, fun out => ?_⟩
        simp only [readS]
        rw [if_neg hc, if_neg hw]
        rfl
theorem rd_det {l : List UInt8} {i : Nat} {T : List S35} {q : Option (Int × Nat)} (h : Rd l i T q) : ∀ {T' : List S35} {q' : Option (Int × Nat)}, Rd l i T' q' → T = T' ∧ q = q' := by
  induction h with
  | nil i => intro T' q' h'; cases h'; exact ⟨rfl, rfl⟩
  | space h ih =>
    intro T' q' h'
    cases h' with
    | space h' => exact ih h'
    | tok hc _ _ => exact absurd rfl hc
    | err hc _ => exact absurd rfl hc
  | tok hc hw h ih =>
    intro T' q' h'
    cases h' with
    | space h' => exact absurd rfl hc
    | tok _ _ h' => obtain ⟨e1, e2⟩ := ih h'; exact ⟨by rw [e1], e2⟩
    | err _ hw' => exact absurd hw hw'
  | err hc hw =>
    intro T' q' h'
    cases h' with
    | space h' => exact absurd rfl hc
    | tok _ hw' _ => exact absurd hw' hw
    | err _ _ => exact ⟨rfl, rfl⟩
theorem readA_rd {l : List UInt8} {T : List S35} {q : Option (Int × Nat)} (h : Rd l 0 T q) : readA l = outOf [] T l.length q := by
  obtain ⟨T', q', h1, h2⟩ := rd_total (l.length + 1) l 0 (Nat.lt_succ_self _)
  obtain ⟨rfl, rfl⟩ := rd_det h h1
  unfold readA
  rw [h2, Nat.zero_add]
theorem ahead_self (c : UInt8) (A r : List UInt8) (h : c ∉ A) : ahead c (A ++ c :: r) = A := by
  induction A with
  | nil => exact ahead_cons_eq c r
  | cons a A ih =>
    simp only [List.mem_cons, not_or] at h
    rw [List.cons_append, ahead_cons_ne _ (Ne.symm h.1), ih h.2]
end Go.Proofs.YtepnbnpgifpfbaaDoor.G
