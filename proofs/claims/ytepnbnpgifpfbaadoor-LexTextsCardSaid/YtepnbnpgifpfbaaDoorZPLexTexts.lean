/- Lemmas and walks of this claim: PLexTexts. -/
import Derived.Test.YtepnbnpgifpfbaaDoorZGScantlinglaw03LexTexts
import Derived.Test.YtepnbnpgifpfbaaDoorZPcLexTexts
set_option linter.unusedVariables false
set_option linter.unusedSimpArgs false
namespace Go.Proofs.YtepnbnpgifpfbaaDoor.G
open Go.RowKit Go.Proofs.YtepnbnpgifpfbaaDoorW.PrintWords Go.Proofs.YtepnbnpgifpfbaaDoorW.PrintMore
theorem awake_true : scantlinglaw03_awake.f = some true := by kernel_rfl
theorem bs_append (a b : ByteArray) : bs (a ++ b) = bs a ++ bs b := by simp [bs]
theorem size_app (a b : ByteArray) : (a ++ b).size = a.size + b.size := ByteArray.size_append
theorem one_quote (l : List UInt8) (h : 34 ∉ l) : oneS (34 :: (l ++ [34])) = if l = [] then errT 3 else if valid l = true then (tkOf 2 noC ⟨l.toArray⟩ 0 0, l.length + 2, 0) else errT 3 := by
  have ha : ahead 34 (l ++ [34]) = l := ahead_self 34 l [] h
  have h1 : shortK ((34 : UInt8).toNat : Int) = 0 := rfl
  simp only [oneS]
  rw [if_neg (by rw [h1]; decide), if_neg (by decide), if_neg (by decide), if_pos trivial, if_pos (by simp), ha, okU_valid]
theorem LexTexts : scantlinglaw03_LexTexts.Pure := by
  intro s hs
  refine Ev.rounds (g := fun k => scantlinglaw03_LexTexts.f k s) ?_
  unfold scantlinglaw03_LexTexts.f
  simp only [awake_true, Option.bind_some, if_true]
  by_cases hb : s.size ≤ 300
  case neg =>
    rw [show decide ((s.size : Int) > 300) = true from decide_eq_true (by omega)]
    exact Ev.step (f := fun _ => some true) (fun k => by rw [scantlinglaw03_LexTexts.j0, if_pos rfl, awake_true]; rfl) (Ev.now _)
  rw [show decide ((s.size : Int) > 300) = false from decide_eq_false (by omega)]
  refine Ev.step (fun k => by rw [scantlinglaw03_LexTexts.j0, if_neg (by decide)]) ?_
  have fin : 34 ∉ bs s → Ev (fun k => scantlinglaw03_LexTexts.l0 k s ((s.size : Nat) : Int)) true := by
    intro hq
    have hall : bs (((⟨#[32, 32, 34]⟩ : ByteArray) ++ s) ++ (⟨#[34]⟩ : ByteArray)) = 32 :: 32 :: 34 :: (bs s ++ [34]) := by
      rw [bs_append, bs_append]; rfl
    have hsz : (((⟨#[32, 32, 34]⟩ : ByteArray) ++ s) ++ (⟨#[34]⟩ : ByteArray)).size = s.size + 4 := by
      rw [← bs_len, hall]; simp [bs_len]
    have e := read_eq (((⟨#[32, 32, 34]⟩ : ByteArray) ++ s) ++ (⟨#[34]⟩ : ByteArray)) (by omega)
    rw [hall] at e
    have hone := one_quote (bs s) hq
    have b1 : 3 + s.size ≤ 9223372036854775807 := by omega
    have b2 : ((⟨#[32, 32, 34]⟩ : ByteArray) ++ s).size + 1 ≤ 9223372036854775807 := by rw [size_app]; have : (⟨#[32, 32, 34]⟩ : ByteArray).size = 3 := rfl; omega
    refine Ev.step (f := fun k => (lex_Read.f k (((⟨#[32, 32, 34]⟩ : ByteArray) ++ s) ++ (⟨#[34]⟩ : ByteArray))).bind fun bt441 => (if (s.size : Int) > 0 then ((lex_Utf8.f s).bind fun t446 => (scantlinglaw03_LexTexts.j2 k s bt441.1 bt441.2.1 bt441.2.2 t446)) else (scantlinglaw03_LexTexts.j2 k s bt441.1 bt441.2.1 bt441.2.2 false))) (fun k => by rw [scantlinglaw03_LexTexts.l0, if_neg (by omega), if_pos b1, if_pos b2]) ?_
    refine Ev.bind e ?_
    have bad : oneS (34 :: (bs s ++ [34])) = errT 3 → Ev (fun k => scantlinglaw03_LexTexts.j2 k s (readA (32 :: 32 :: 34 :: (bs s ++ [34]))).1 (readA (32 :: 32 :: 34 :: (bs s ++ [34]))).2.1 (readA (32 :: 32 :: 34 :: (bs s ++ [34]))).2.2 false) true := by
      intro he
      have hr : Rd (32 :: 32 :: 34 :: (bs s ++ [34])) 0 [] (some (3, 2)) := by
        have h := Rd.err (c := 34) (l := bs s ++ [34]) (i := 2) (by decide) (by rw [he]; decide)
        rw [he] at h
        exact .space (.space h)
      rw [readA_rd hr]
      refine Ev.step (f := fun _ => some true) (fun k => ?_) (Ev.now _)
      rw [scantlinglaw03_LexTexts.j2, if_neg (by decide)]
      rfl
    by_cases hn : bs s = []
    · have h0 : s.size = 0 := by rw [← bs_len, hn]; rfl
      simp only [if_neg (show ¬ (s.size : Int) > 0 by omega)]
      exact bad (by rw [hone, if_pos hn])
    · have h0 : 0 < s.size := by rw [← bs_len]; exact List.length_pos_iff.2 hn
      simp only [if_pos (show (s.size : Int) > 0 by omega), utf8_valid, Option.bind_some]
      cases hv : valid (bs s) with
      | false => exact bad (by rw [hone, if_neg hn, hv]; rfl)
      | true =>
        rw [if_neg hn, if_pos hv] at hone
        have hr : Rd (32 :: 32 :: 34 :: (bs s ++ [34])) 0 [tokAt (tkOf 2 noC ⟨(bs s).toArray⟩ 0 0) 2] none := by
          have h := Rd.tok (c := 34) (l := bs s ++ [34]) (i := 2) (T := []) (q := none) (by decide) (by rw [hone]) (by
            rw [hone]
            have : (34 :: (bs s ++ [34])).drop ((bs s).length + 2) = [] := List.drop_eq_nil_of_le (by simp)
            simp only
            rw [this]
            exact .nil _)
          rw [hone] at h
          exact .space (.space h)
        rw [readA_rd hr]
        have hbs : (⟨(bs s).toArray⟩ : ByteArray) = s := bs_inj rfl
        rw [hbs]
        have v1 : valid (bs s ++ bs s) = true := by rw [valid_app _ _ (Nat.le_refl _) hv]; exact hv
        have v2 : valid (bs s ++ [255]) = false := by rw [valid_app _ _ (Nat.le_refl _) hv]; exact valid_255
        have v3 : valid (195 :: (bs s ++ [97])) = false := by
          cases hl : bs s with
          | nil => exact absurd hl hn
          | cons b t => rw [hl] at hv; exact valid_195 b _ (valid_head hv)
        have u1 : lex_Utf8.f (s ++ s) = some true := by rw [utf8_valid, bs_append, v1]
        have u2 : lex_Utf8.f (s ++ (⟨#[255]⟩ : ByteArray)) = some false := by rw [utf8_valid, bs_append]; exact congrArg some v2
        have u3 : lex_Utf8.f (((⟨#[195]⟩ : ByteArray) ++ s) ++ (⟨#[97]⟩ : ByteArray)) = some false := by rw [utf8_valid, bs_append, bs_append]; exact congrArg some v3
        have b4 : ((⟨#[195]⟩ : ByteArray) ++ s).size + 1 ≤ 9223372036854775807 := by rw [size_app]; have : (⟨#[195]⟩ : ByteArray).size = 1 := rfl; omega
        refine Ev.step (f := fun _ => some true) (fun k => ?_) (Ev.now _)
        have hrd : rd_T35 (outOf [] [tokAt (tkOf 2 noC s 0 0) 2] (32 :: 32 :: 34 :: (bs s ++ [34])).length none).1 0 = tokAt (tkOf 2 noC s 0 0) 2 := rfl
        rw [scantlinglaw03_LexTexts.j2, if_pos rfl, hrd]
        have c1 : (outOf [] [tokAt (tkOf 2 noC s 0 0) 2] (32 :: 32 :: 34 :: (bs s ++ [34])).length none).2.1 = 0 := rfl
        have c2 : ((outOf [] [tokAt (tkOf 2 noC s 0 0) 2] (32 :: 32 :: 34 :: (bs s ++ [34])).length none).1.length : Int) = 2 := rfl
        rw [if_pos c1, if_pos c2, if_pos (by rw [c2]; decide), if_pos (by simp [tokAt, tkOf]), if_pos (by omega), u1, Option.bind_some, if_pos rfl, if_pos (by omega), u2, Option.bind_some, if_neg (by decide), if_pos (by omega), if_pos b4, u3]
        rfl
  have loop : ∀ (d i : Nat), i + d = s.size → 34 ∉ (bs s).take i → Ev (fun k => scantlinglaw03_LexTexts.l0 k s (i : Int)) true := by
    intro d
    induction d with
    | zero =>
      intro i h hq
      obtain rfl : i = s.size := by omega
      exact fin (by rw [List.take_of_length_le (by rw [bs_len]; exact Nat.le_refl _)] at hq; exact hq)
    | succ d ih =>
      intro i h hq
      have hi : i < s.size := by omega
      have hbt : bt s (i : Int) = ((s.get! i).toNat : Int) := bt_nat s i
      by_cases e : s.get! i = 34
      · refine Ev.step (f := fun _ => some true) (fun k => ?_) (Ev.now _)
        rw [scantlinglaw03_LexTexts.l0, if_pos (by omega), if_pos (by omega), hbt, e, if_pos (by decide)]
      · have e' : ¬ ((s.get! i).toNat : Int) = 34 := by
          intro q; apply e; apply UInt8.toNat_inj.1; show (s.get! i).toNat = 34; omega
        have hw : wrap64 ((i : Int) + 1) = ((i + 1 : Nat) : Int) := w64 (by omega) (by omega)
        refine Ev.step (fun k => ?_) (ih (i + 1) (by omega) ?_)
        · rw [scantlinglaw03_LexTexts.l0, if_pos (by omega), if_pos (by omega), hbt, if_neg e', hw]
        · rw [List.take_add_one, bs_get s i hi]
          intro q
          rcases List.mem_append.1 q with q | q
          · exact hq q
          · simp at q; exact e q.symm
  exact loop s.size 0 (Nat.zero_add _) (by simp)
end Go.Proofs.YtepnbnpgifpfbaaDoor.G
