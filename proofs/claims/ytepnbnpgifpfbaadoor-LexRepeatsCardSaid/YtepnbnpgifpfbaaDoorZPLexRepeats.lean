/- Lemmas and walks of this claim: PLexRepeats. -/
import Derived.Test.YtepnbnpgifpfbaaDoorZGScantlinglaw03LexRepeats
import Derived.Test.YtepnbnpgifpfbaaDoorZPcLexRepeats
set_option linter.unusedVariables false
set_option linter.unusedSimpArgs false
namespace Go.Proofs.YtepnbnpgifpfbaaDoor.G
open Go.RowKit Go.Proofs.YtepnbnpgifpfbaaDoorW.PrintWords Go.Proofs.YtepnbnpgifpfbaaDoorW.PrintMore
theorem awake_true : scantlinglaw03_awake.f = some true := by kernel_rfl
theorem bs_append (a b : ByteArray) : bs (a ++ b) = bs a ++ bs b := by simp [bs]
theorem size_app (a b : ByteArray) : (a ++ b).size = a.size + b.size := ByteArray.size_append
def dgt (n : Nat) : UInt8 := UInt8.ofNat (48 + n % 10)
theorem dgt_nat (n : Nat) : (dgt n).toNat = 48 + n % 10 := by
  unfold dgt
  rw [UInt8.toNat_ofNat']
  omega
theorem dgt_dg (n : Nat) : dg (dgt n) = true := by
  unfold dg
  rw [dgt_nat]
  simp only [Bool.and_eq_true, decide_eq_true_eq]
  omega
theorem str_one (n : Nat) : strOfNums [(wrap64 (48 + (Int.tmod (n : Int) 10))) % 256] = ⟨#[dgt n]⟩ := by
  have h : (wrap64 (48 + (Int.tmod (n : Int) 10))) % 256 = ((48 + n % 10 : Nat) : Int) := by
    rw [Int.tmod_eq_emod_of_nonneg (by omega), w64 (by omega) (by omega)]
    omega
  rw [h]
  rfl
def Good (N : Nat) (l : List UInt8) : Prop := l ≠ [] ∧ (∀ c ∈ l, dg c = true) ∧ ¬ (1 < l.length ∧ l.head? = some 48) ∧ satF 0 l = min 256 N ∧ l.length ≤ 5
def Half (N n : Nat) (l : List UInt8) : Prop := (∀ c ∈ l, dg c = true) ∧ (n = 0 → ¬ (1 < l.length ∧ l.head? = some 48)) ∧ satF (min 256 n) l = min 256 N
theorem half_step {N n : Nat} {l : List UInt8} (h : Half N n l) (hn : 0 < n ∨ l = []) : Half N (n / 10) (dgt n :: l) := by
  obtain ⟨h1, h2, h3⟩ := h
  refine ⟨?_, ?_, ?_⟩
  · intro c hc
    rcases List.mem_cons.1 hc with rfl | hc
    · exact dgt_dg n
    · exact h1 c hc
  · rintro hz ⟨q1, q2⟩
    rw [List.head?_cons, Option.some.injEq] at q2
    have q3 : (dgt n).toNat = 48 := by rw [q2]; rfl
    rw [dgt_nat] at q3
    rcases hn with hn | hn
    · omega
    · rw [hn, List.length_singleton] at q1; omega
  · rw [← h3]
    show satF (min 256 (10 * min 256 (n / 10) + ((dgt n).toNat - 48))) l = _
    rw [dgt_nat]
    congr 1
    omega
theorem half_done {N : Nat} {l : List UInt8} (h : Half N 0 l) (hl : l ≠ []) (h5 : l.length ≤ 5) : Good N l :=
  ⟨hl, h.1, h.2.1 rfl, h.2.2, h5⟩
theorem half_start (N : Nat) : Half N N [] := ⟨fun c hc => (by cases hc), fun _ h => (by simp at h), rfl⟩
theorem numOK_good {N : Nat} {l : List UInt8} (h : Good N l) : numOK l = some (min 256 N) := by
  obtain ⟨h1, h2, h3, h4, _⟩ := h
  have e : dig l = l := tw_all l h2
  unfold numOK refNum
  rw [e, if_pos rfl]
  simp only
  rw [if_neg (by rintro (q | q); exact h1 q; exact h3 q), h4]
theorem numOK_zero {N : Nat} {l : List UInt8} (h : Good N l) : numOK (48 :: l) = none := by
  obtain ⟨h1, h2, h3, h4, _⟩ := h
  have e : dig (48 :: l) = 48 :: l := tw_all _ (fun c hc => by
    rcases List.mem_cons.1 hc with rfl | hc
    · rfl
    · exact h2 c hc)
  unfold numOK refNum
  rw [e, if_pos rfl]
  simp only
  rw [if_pos (Or.inr ⟨by have := List.length_pos_iff.2 h1; rw [List.length_cons]; omega, rfl⟩)]
theorem good_not {N : Nat} {l : List UInt8} (h : Good N l) (c : UInt8) (hc : dg c = false) : c ∉ l := by
  intro q
  rw [h.2.1 c q] at hc
  cases hc
theorem from1_self (c : UInt8) (l r : List UInt8) (h : c ∉ l) : from1 c (l ++ c :: r) = c :: r := by
  have h1 := ahead_from c (l ++ c :: r)
  rw [ahead_self c l r h] at h1
  exact List.append_cancel_left h1
theorem rep_of (x y : List UInt8) (hx : (44 : UInt8) ∉ x) : repSpec (x ++ 44 :: y) = (match numOK x, numOK y with | some lo, some hi => bounds lo hi | _, _ => (0, 0, 4)) := by
  unfold repSpec
  rw [ahead_self 44 x y hx, from1_self 44 x y hx]
  rfl
theorem one_rep (c : List UInt8) (h : (125 : UInt8) ∉ c) : oneS (123 :: (c ++ [125])) = if (repSpec c).2.2 = 0 then (tkOf 7 noC noT (repSpec c).1 (repSpec c).2.1, c.length + 2, 0) else errT (repSpec c).2.2 := by
  have ha : ahead 125 (c ++ [125]) = c := ahead_self 125 c [] h
  have h1 : shortK ((123 : UInt8).toNat : Int) = 0 := rfl
  simp only [oneS]
  rw [if_neg (by rw [h1]; decide), if_neg (by decide), if_neg (by decide), if_neg (by decide), if_pos trivial, if_pos (by simp), ha]
theorem dot_one (l : List UInt8) : oneS (46 :: l) = (tkOf 1 (cls fun _ => true) noT 0 0, 1, 0) := by
  have h1 : shortK ((46 : UInt8).toNat : Int) = 0 := rfl
  simp only [oneS]
  rw [if_neg (by rw [h1]; decide), if_pos trivial]
theorem LexRepeats : scantlinglaw03_LexRepeats.Pure := by
  intro x0 x1 hx0 hx1
  refine Ev.rounds (g := fun k => scantlinglaw03_LexRepeats.f k x0 x1) ?_
  obtain ⟨a, rfl, ha⟩ : ∃ a : Nat, x0 = (a : Int) ∧ a ≤ 65535 := by
    have h := hx0
    simp only [Lit.wf, IntKind.min, IntKind.max, IntKind.signed, IntKind.bits, Bool.and_eq_true, decide_eq_true_eq] at h
    simp at h
    exact ⟨x0.toNat, by omega, by omega⟩
  obtain ⟨b, rfl, hb⟩ : ∃ b : Nat, x1 = (b : Int) ∧ b ≤ 65535 := by
    have h := hx1
    simp only [Lit.wf, IntKind.min, IntKind.max, IntKind.signed, IntKind.bits, Bool.and_eq_true, decide_eq_true_eq] at h
    simp at h
    exact ⟨x1.toNat, by omega, by omega⟩
  have hwa : wrap64 (a : Int) = (a : Int) := w64 (by omega) (by omega)
  have hwb : wrap64 (b : Int) = (b : Int) := w64 (by omega) (by omega)
  unfold scantlinglaw03_LexRepeats.f
  simp only [awake_true, Option.bind_some, if_true, hwa]
  have loop1 : ∀ (d n : Nat) (x : ByteArray), n < 10 ^ d → (bs x).length + d = 5 → Half a n (bs x) →
      (∀ x' : ByteArray, Good a (bs x') → Ev (fun k => scantlinglaw03_LexRepeats.l1 k (a : Int) (b : Int) x' (⟨#[]⟩ : ByteArray) (b : Int)) true) →
      Ev (fun k => scantlinglaw03_LexRepeats.l0 k (a : Int) (b : Int) x (⟨#[]⟩ : ByteArray) (n : Int)) true := by
    intro d
    induction d with
    | zero =>
      intro n x hn hl hh next
      obtain rfl : n = 0 := by rw [Nat.pow_zero] at hn; omega
      have hne : bs x ≠ [] := by intro q; rw [q, List.length_nil] at hl; omega
      refine Ev.step (fun k => ?_) (next x (half_done hh hne (by omega)))
      rw [scantlinglaw03_LexRepeats.l0, if_neg (by omega), if_neg (by rw [toList_nil]; exact hne), hwb]
    | succ d ih =>
      intro n x hn hl hh next
      have hdv : wrap64 (Int.tdiv (n : Int) 10) = ((n / 10 : Nat) : Int) := by
        rw [Nat.pow_succ] at hn
        have : (10 : Nat) ^ d ≤ 10 ^ 5 := Nat.pow_le_pow_right (by omega) (by omega)
        rw [Int.tdiv_eq_ediv_of_nonneg (by omega), w64 (by omega) (by omega)]
        omega
      have hb1 : bs ((⟨#[dgt n]⟩ : ByteArray) ++ x) = dgt n :: bs x := by rw [bs_append]; rfl
      have hsz : (⟨#[dgt n]⟩ : ByteArray).size + x.size ≤ 9223372036854775807 := by
        have : (⟨#[dgt n]⟩ : ByteArray).size = 1 := rfl
        rw [bs_len] at hl
        omega
      have go : (0 < n ∨ bs x = []) → Ev (fun k => scantlinglaw03_LexRepeats.l0 k (a : Int) (b : Int) ((⟨#[dgt n]⟩ : ByteArray) ++ x) (⟨#[]⟩ : ByteArray) ((n / 10 : Nat) : Int)) true := fun hc =>
        ih (n / 10) _ (by rw [Nat.pow_succ] at hn; omega) (by rw [hb1, List.length_cons]; omega) (by rw [hb1]; exact half_step hh hc) next
      by_cases h0 : 0 < n
      · refine Ev.step (fun k => ?_) (go (.inl h0))
        rw [scantlinglaw03_LexRepeats.l0, if_pos (by omega), hdv]
        simp only [Option.bind_some, str_one]
        rw [if_pos hsz]
      · obtain rfl : n = 0 := by omega
        by_cases hx : bs x = []
        · refine Ev.step (fun k => ?_) (go (.inr hx))
          rw [scantlinglaw03_LexRepeats.l0, if_neg (by omega), if_pos (by rw [toList_nil]; exact hx), hdv]
          simp only [Option.bind_some, str_one]
          rw [if_pos hsz]
        · refine Ev.step (fun k => ?_) (next x (half_done hh hx (by omega)))
          rw [scantlinglaw03_LexRepeats.l0, if_neg (by omega), if_neg (by rw [toList_nil]; exact hx), hwb]
  have loop2 : ∀ (x : ByteArray) (d n : Nat) (y : ByteArray), n < 10 ^ d → (bs y).length + d = 5 → Half b n (bs y) →
      (∀ y' : ByteArray, Good b (bs y') → Ev (fun k => scantlinglaw03_LexRepeats.l1 k (a : Int) (b : Int) x y' 0) true) →
      Ev (fun k => scantlinglaw03_LexRepeats.l1 k (a : Int) (b : Int) x y (n : Int)) true := by
    intro x d
    induction d with
    | zero =>
      intro n y hn hl hh next
      obtain rfl : n = 0 := by rw [Nat.pow_zero] at hn; omega
      have hne : bs y ≠ [] := by intro q; rw [q, List.length_nil] at hl; omega
      exact next y (half_done hh hne (by omega))
    | succ d ih =>
      intro n y hn hl hh next
      have hdv : wrap64 (Int.tdiv (n : Int) 10) = ((n / 10 : Nat) : Int) := by
        rw [Nat.pow_succ] at hn
        have : (10 : Nat) ^ d ≤ 10 ^ 5 := Nat.pow_le_pow_right (by omega) (by omega)
        rw [Int.tdiv_eq_ediv_of_nonneg (by omega), w64 (by omega) (by omega)]
        omega
      have hb1 : bs ((⟨#[dgt n]⟩ : ByteArray) ++ y) = dgt n :: bs y := by rw [bs_append]; rfl
      have hsz : (⟨#[dgt n]⟩ : ByteArray).size + y.size ≤ 9223372036854775807 := by
        have : (⟨#[dgt n]⟩ : ByteArray).size = 1 := rfl
        rw [bs_len] at hl
        omega
      have go : (0 < n ∨ bs y = []) → Ev (fun k => scantlinglaw03_LexRepeats.l1 k (a : Int) (b : Int) x ((⟨#[dgt n]⟩ : ByteArray) ++ y) ((n / 10 : Nat) : Int)) true := fun hc =>
        ih (n / 10) _ (by rw [Nat.pow_succ] at hn; omega) (by rw [hb1, List.length_cons]; omega) (by rw [hb1]; exact half_step hh hc) next
      by_cases h0 : 0 < n
      · refine Ev.step (fun k => ?_) (go (.inl h0))
        rw [scantlinglaw03_LexRepeats.l1, if_pos (by omega), hdv]
        simp only [Option.bind_some, str_one]
        rw [if_pos hsz]
      · obtain rfl : n = 0 := by omega
        by_cases hy : bs y = []
        · refine Ev.step (fun k => ?_) (go (.inr hy))
          rw [scantlinglaw03_LexRepeats.l1, if_neg (by omega), if_pos (by rw [toList_nil]; exact hy), hdv]
          simp only [Option.bind_some, str_one]
          rw [if_pos hsz]
        · exact next y (half_done hh hy (by omega))
  refine loop1 5 a _ (by omega) rfl (half_start a) ?_
  intro x hgx
  refine loop2 x 5 b _ (by omega) rfl (half_start b) ?_
  intro y hgy
  have hx5 := hgx.2.2.2.2
  have hy5 := hgy.2.2.2.2
  rw [bs_len] at hx5 hy5
  have q1 : (44 : UInt8) ∉ bs x := good_not hgx 44 rfl
  have q2 : (125 : UInt8) ∉ bs x := good_not hgx 125 rfl
  have q3 : (125 : UInt8) ∉ bs y := good_not hgy 125 rfl
  have i1 : (⟨#[46, 123]⟩ : ByteArray).size = 2 := rfl
  have i2 : (⟨#[44]⟩ : ByteArray).size = 1 := rfl
  have i3 : (⟨#[125]⟩ : ByteArray).size = 1 := rfl
  have i4 : (⟨#[123]⟩ : ByteArray).size = 1 := rfl
  have i5 : (⟨#[44, 48]⟩ : ByteArray).size = 2 := rfl
  have s1 : ((⟨#[46, 123]⟩ : ByteArray) ++ x).size = 2 + x.size := by rw [size_app, i1]
  have s2 : (((⟨#[46, 123]⟩ : ByteArray) ++ x) ++ (⟨#[44]⟩ : ByteArray)).size = 2 + x.size + 1 := by rw [size_app, s1, i2]
  have s3 : ((((⟨#[46, 123]⟩ : ByteArray) ++ x) ++ (⟨#[44]⟩ : ByteArray)) ++ y).size = 2 + x.size + 1 + y.size := by rw [size_app, s2]
  have s4 : (((((⟨#[46, 123]⟩ : ByteArray) ++ x) ++ (⟨#[44]⟩ : ByteArray)) ++ y) ++ (⟨#[125]⟩ : ByteArray)).size = 2 + x.size + 1 + y.size + 1 := by rw [size_app, s3, i3]
  have t1 : ((⟨#[123]⟩ : ByteArray) ++ x).size = 1 + x.size := by rw [size_app, i4]
  have t2 : (((⟨#[123]⟩ : ByteArray) ++ x) ++ (⟨#[44, 48]⟩ : ByteArray)).size = 1 + x.size + 2 := by rw [size_app, t1, i5]
  have t3 : ((((⟨#[123]⟩ : ByteArray) ++ x) ++ (⟨#[44, 48]⟩ : ByteArray)) ++ y).size = 1 + x.size + 2 + y.size := by rw [size_app, t2]
  have t4 : (((((⟨#[123]⟩ : ByteArray) ++ x) ++ (⟨#[44, 48]⟩ : ByteArray)) ++ y) ++ (⟨#[125]⟩ : ByteArray)).size = 1 + x.size + 2 + y.size + 1 := by rw [size_app, t3, i3]
  have hA : bs (((((⟨#[46, 123]⟩ : ByteArray) ++ x) ++ (⟨#[44]⟩ : ByteArray)) ++ y) ++ (⟨#[125]⟩ : ByteArray)) = 46 :: 123 :: ((bs x ++ 44 :: bs y) ++ [125]) := by
    rw [bs_append, bs_append, bs_append, bs_append]
    show [46, 123] ++ bs x ++ [44] ++ bs y ++ [125] = _
    simp
  have hB : bs (((((⟨#[123]⟩ : ByteArray) ++ x) ++ (⟨#[44, 48]⟩ : ByteArray)) ++ y) ++ (⟨#[125]⟩ : ByteArray)) = 123 :: ((bs x ++ 44 :: (48 :: bs y)) ++ [125]) := by
    rw [bs_append, bs_append, bs_append, bs_append]
    show [123] ++ bs x ++ [44, 48] ++ bs y ++ [125] = _
    simp
  have e1 := read_eq (((((⟨#[46, 123]⟩ : ByteArray) ++ x) ++ (⟨#[44]⟩ : ByteArray)) ++ y) ++ (⟨#[125]⟩ : ByteArray)) (by omega)
  have e2 := read_eq (((((⟨#[123]⟩ : ByteArray) ++ x) ++ (⟨#[44, 48]⟩ : ByteArray)) ++ y) ++ (⟨#[125]⟩ : ByteArray)) (by omega)
  rw [hA] at e1
  rw [hB] at e2
  have p1 : (125 : UInt8) ∉ bs x ++ 44 :: bs y := by
    rw [List.mem_append, List.mem_cons]
    rintro (q | q | q)
    · exact q2 q
    · exact absurd q (by decide)
    · exact q3 q
  have p2 : (125 : UInt8) ∉ bs x ++ 44 :: (48 :: bs y) := by
    rw [List.mem_append, List.mem_cons, List.mem_cons]
    rintro (q | q | q | q)
    · exact q2 q
    · exact absurd q (by decide)
    · exact absurd q (by decide)
    · exact q3 q
  have o1 := one_rep _ p1
  have o2 := one_rep _ p2
  rw [rep_of _ _ q1, numOK_good hgx] at o1 o2
  rw [numOK_good hgy] at o1
  rw [numOK_zero hgy] at o2
  simp only at o1 o2
  have r2 : Rd (123 :: ((bs x ++ 44 :: (48 :: bs y)) ++ [125])) 0 [] (some (4, 0)) := by
    have h := Rd.err (c := 123) (l := (bs x ++ 44 :: (48 :: bs y)) ++ [125]) (i := 0) (by decide) (by rw [o2, if_neg (by decide)]; decide)
    rw [o2, if_neg (by decide)] at h
    exact h
  rw [readA_rd r2] at e2
  have c1 : 2 + x.size ≤ 9223372036854775807 := by omega
  have c2 : ((⟨#[46, 123]⟩ : ByteArray) ++ x).size + 1 ≤ 9223372036854775807 := by omega
  have c3 : (((⟨#[46, 123]⟩ : ByteArray) ++ x) ++ (⟨#[44]⟩ : ByteArray)).size + y.size ≤ 9223372036854775807 := by omega
  have c4 : ((((⟨#[46, 123]⟩ : ByteArray) ++ x) ++ (⟨#[44]⟩ : ByteArray)) ++ y).size + 1 ≤ 9223372036854775807 := by omega
  have d1 : 1 + x.size ≤ 9223372036854775807 := by omega
  have d2 : ((⟨#[123]⟩ : ByteArray) ++ x).size + 2 ≤ 9223372036854775807 := by omega
  have d3 : (((⟨#[123]⟩ : ByteArray) ++ x) ++ (⟨#[44, 48]⟩ : ByteArray)).size + y.size ≤ 9223372036854775807 := by omega
  have d4 : ((((⟨#[123]⟩ : ByteArray) ++ x) ++ (⟨#[44, 48]⟩ : ByteArray)) ++ y).size + 1 ≤ 9223372036854775807 := by omega
  refine Ev.step (f := fun k => (lex_Read.f k (((((⟨#[46, 123]⟩ : ByteArray) ++ x) ++ (⟨#[44]⟩ : ByteArray)) ++ y) ++ (⟨#[125]⟩ : ByteArray))).bind fun bt428 => (lex_Read.f k (((((⟨#[123]⟩ : ByteArray) ++ x) ++ (⟨#[44, 48]⟩ : ByteArray)) ++ y) ++ (⟨#[125]⟩ : ByteArray))).bind fun bt433 => (if bt433.2.1 = 4 then (scantlinglaw03_LexRepeats.j2 k (a : Int) (b : Int) bt428.1 bt428.2.1 bt428.2.2 (bt433.2.2 != 0)) else (scantlinglaw03_LexRepeats.j2 k (a : Int) (b : Int) bt428.1 bt428.2.1 bt428.2.2 true))) (fun k => ?_) ?_
  · rw [scantlinglaw03_LexRepeats.l1, if_neg (by omega), if_neg (by rw [toList_nil]; exact hgy.1), if_pos c1, if_pos c2, if_pos c3, if_pos c4]
    simp only [if_pos d1, if_pos d2, if_pos d3, if_pos d4]
  refine Ev.bind e1 (Ev.bind e2 ?_)
  simp only [outOf, if_true]
  have hd := dot_one ((123 : UInt8) :: ((bs x ++ 44 :: bs y) ++ [125]))
  by_cases hbad : b < a ∨ 255 < b
  · have hbd : bounds (min 256 a) (min 256 b) = (0, 0, 5) := by
      unfold bounds
      rw [if_pos (by omega)]
    rw [hbd, if_neg (by decide)] at o1
    have r1 : Rd (46 :: 123 :: ((bs x ++ 44 :: bs y) ++ [125])) 0 [tokAt (tkOf 1 (cls fun _ => true) noT 0 0) 0] (some (5, 1)) := by
      have h1 := Rd.err (c := 123) (l := (bs x ++ 44 :: bs y) ++ [125]) (i := 1) (by decide) (by rw [o1]; decide)
      rw [o1] at h1
      have h := Rd.tok (c := 46) (l := 123 :: ((bs x ++ 44 :: bs y) ++ [125])) (i := 0) (T := []) (q := some (5, 1)) (by decide) (by rw [hd]) (by rw [hd]; exact h1)
      rw [hd] at h
      exact h
    rw [readA_rd r1]
    simp only [outOf]
    refine Ev.step (f := fun _ => some true) (fun k => ?_) (Ev.now _)
    rw [scantlinglaw03_LexRepeats.j2, if_neg (by decide)]
    by_cases hba : b < a
    · rw [if_pos (by omega)]; rfl
    · rw [if_neg (by omega), if_pos (by omega)]; rfl
  · have hbd : bounds (min 256 a) (min 256 b) = ((a : Int), (b : Int), 0) := by
      unfold bounds
      rw [if_neg (by omega), Nat.min_eq_right (by omega), Nat.min_eq_right (by omega)]
    rw [hbd, if_pos rfl] at o1
    simp only at o1
    have r1 : Rd (46 :: 123 :: ((bs x ++ 44 :: bs y) ++ [125])) 0 [tokAt (tkOf 1 (cls fun _ => true) noT 0 0) 0, tokAt (tkOf 7 noC noT a b) 1] none := by
      have h1 := Rd.tok (c := 123) (l := (bs x ++ 44 :: bs y) ++ [125]) (i := 1) (T := []) (q := none) (by decide) (by rw [o1]) (by
        rw [o1]
        have : (123 :: ((bs x ++ 44 :: bs y) ++ [125])).drop ((bs x ++ 44 :: bs y).length + 2) = [] := List.drop_eq_nil_of_le (by rw [List.length_cons, List.length_append (bs := [125])]; exact Nat.le_refl _)
        simp only
        rw [this]
        exact .nil _)
      rw [o1] at h1
      have h := Rd.tok (c := 46) (l := 123 :: ((bs x ++ 44 :: bs y) ++ [125])) (i := 0) (by decide) (by rw [hd]) (by rw [hd]; exact h1)
      rw [hd] at h
      exact h
    rw [readA_rd r1]
    simp only [outOf]
    refine Ev.step (f := fun _ => some true) (fun k => ?_) (Ev.now _)
    have hl3 : ∀ e : S35, ((([] ++ [tokAt (tkOf 1 (cls fun _ => true) noT 0 0) 0, tokAt (tkOf 7 noC noT a b) 1] ++ [e] : List S35).length : Nat) : Int) = 3 := fun e => rfl
    rw [scantlinglaw03_LexRepeats.j2, if_neg (by decide), if_neg (by omega), if_neg (by omega), if_pos rfl, hl3, if_pos rfl, if_pos (by decide), hwa, hwb]
    have hrd : ∀ e : S35, rd_T35 ([] ++ [tokAt (tkOf 1 (cls fun _ => true) noT 0 0) 0, tokAt (tkOf 7 noC noT a b) 1] ++ [e]) 1 = tokAt (tkOf 7 noC noT a b) 1 := fun e => rfl
    rw [hrd]
    simp [tokAt, tkOf]
end Go.Proofs.YtepnbnpgifpfbaaDoor.G
