/- Lemmas and walks of this claim: POne, PRead. -/
import Derived.Test.YtepnbnpgifpfbaaDoorZKb
import Derived.Test.YtepnbnpgifpfbaaDoorZKf
import Derived.Test.YtepnbnpgifpfbaaDoorZRb
import Derived.Test.YtepnbnpgifpfbaaDoorZGERefOne
import Derived.Test.YtepnbnpgifpfbaaDoorZGScantlingref03Read
import Derived.Test.YtepnbnpgifpfbaaDoorZPaLexReads
set_option linter.unusedVariables false
set_option linter.unusedSimpArgs false
namespace Go.Proofs.YtepnbnpgifpfbaaDoor.G
open Go.RowKit Go.Proofs.YtepnbnpgifpfbaaDoorW.PrintWords Go.Proofs.YtepnbnpgifpfbaaDoorW.PrintMore
structure Tk where
  kind : Int
  c0 : Int
  c1 : Int
  c2 : Int
  c3 : Int
  text : ByteArray
  lo : Int
  hi : Int
def tkOf (kind : Int) (c : Int × Int × Int × Int) (text : ByteArray) (lo hi : Int) : Tk := ⟨kind, c.1, c.2.1, c.2.2.1, c.2.2.2, text, lo, hi⟩
abbrev noC : Int × Int × Int × Int := (0, 0, 0, 0)
abbrev noT : ByteArray := ⟨#[]⟩
def errT (e : Int) : Tk × Nat × Int := (tkOf 0 noC noT 0 0, 0, e)
def okU (l : List UInt8) : Bool := utf8From ⟨l.toArray⟩ l.length 0
def oneS : List UInt8 → Tk × Nat × Int
  | [] => errT 1
  | c :: l =>
    if shortK (c.toNat : Int) ≠ 0 then (tkOf (shortK (c.toNat : Int)) noC noT 0 0, 1, 0)
    else if c = 46 then (tkOf 1 (cls fun _ => true) noT 0 0, 1, 0)
    else if c = 60 then (if 62 ∈ l then (match bytesS (ahead 62 l) with | none => errT 2 | some q => (tkOf 1 (cls (Qn (decide ((ahead 62 l).head? = some 94)) q)) noT 0 0, (ahead 62 l).length + 2, 0)) else errT 2)
    else if c = 34 then (if 34 ∈ l then (if ahead 34 l = [] then errT 3 else if okU (ahead 34 l) = true then (tkOf 2 noC ⟨(ahead 34 l).toArray⟩ 0 0, (ahead 34 l).length + 2, 0) else errT 3) else errT 3)
    else if c = 123 then (if 125 ∈ l then (if (repSpec (ahead 125 l)).2.2 = 0 then (tkOf 7 noC noT (repSpec (ahead 125 l)).1 (repSpec (ahead 125 l)).2.1, (ahead 125 l).length + 2, 0) else errT (repSpec (ahead 125 l)).2.2) else errT 4)
    else errT 1
def tup (t : Tk) (at_ n why : Int) : Int × Int × Int × Int × Int × Int × ByteArray × Int × Int × Int × Int := (t.kind, at_, t.c0, t.c1, t.c2, t.c3, t.text, t.lo, t.hi, n, why)
theorem bs_inj {a b : ByteArray} (h : bs a = bs b) : a = b := by
  rw [← Lib.mk_data a, ← Lib.mk_data b]
  exact congrArg (fun l : List UInt8 => (⟨l.toArray⟩ : ByteArray)) h
theorem bs_mk (l : List UInt8) : bs ⟨l.toArray⟩ = l := rfl
theorem u8_lit (b : UInt8) (n : Nat) (hn : n < 256) : ((b.toNat : Int) = (n : Int)) ↔ b = UInt8.ofNat n := by
  constructor
  · intro h
    apply UInt8.toNat_inj.1
    rw [UInt8.toNat_ofNat']
    omega
  · intro h
    rw [h, UInt8.toNat_ofNat']
    omega
theorem oneS_len (l : List UInt8) (h : (oneS l).2.2 = 0) : 1 ≤ (oneS l).2.1 ∧ (oneS l).2.1 ≤ l.length := by
  have lenA : ∀ (c x : UInt8) (t : List UInt8), c ∈ t → (ahead c t).length + 2 ≤ (x :: t).length := by
    intro c x t hm
    rcases from1_cases c t with ⟨h1, _⟩ | ⟨_, r, _, h3⟩
    · exact absurd hm h1
    · have := congrArg List.length h3
      rw [List.length_append, List.length_cons] at this
      rw [List.length_cons]; omega
  match l, h with
  | [], h => exact absurd h (by decide)
  | c :: l, h =>
    simp only [oneS] at h ⊢
    split at h
    · rename_i q; rw [if_pos q]; simp
    rename_i q; rw [if_neg q]
    split at h
    · rename_i q; rw [if_pos q]; simp
    rename_i q; rw [if_neg q]
    split at h
    · rename_i q; rw [if_pos q]
      split at h
      · rename_i q; rw [if_pos q]
        split at h
        · exact absurd h (by simp [errT])
        · rename_i q2 e
          have := lenA 62 c l q
          simp only
          omega
      · exact absurd h (by simp [errT])
    rename_i q; rw [if_neg q]
    split at h
    · rename_i q; rw [if_pos q]
      split at h
      · rename_i q; rw [if_pos q]
        split at h
        · exact absurd h (by simp [errT])
        · rename_i q2; rw [if_neg q2]
          split at h
          · rename_i q3; rw [if_pos q3]
            have := lenA 34 c l q
            simp only
            omega
          · exact absurd h (by simp [errT])
      · exact absurd h (by simp [errT])
    rename_i q; rw [if_neg q]
    split at h
    · rename_i q; rw [if_pos q]
      split at h
      · rename_i q; rw [if_pos q]
        split at h
        · rename_i q3; rw [if_pos q3]
          have := lenA 125 c l q
          simp only
          omega
        · rename_i q3; exact absurd h q3
      · exact absurd h (by simp [errT])
    rename_i q; rw [if_neg q]
    exact absurd h (by simp [errT])
theorem bs_tail (s : ByteArray) (i : Nat) : bs (s.extract i s.size) = (bs s).drop i := by
  rw [bs_ext, List.take_of_length_le]
  rw [List.length_drop, bs_len]
  exact Nat.le_refl _
theorem idx_f (x : ByteArray) (c : UInt8) (n : Int) (hc : n = (c.toNat : Int)) : strings_IndexByte.f x n = some (if c ∈ bs x then ((ahead c (bs x)).length : Int) else -1) := by
  subst hc
  unfold strings_IndexByte.f
  have e : ((c.toNat : Int)).toNat.toUInt8 = c := by simp
  rw [e]
  exact congrArg some (indexByte_eq c (bs x))
theorem one_prog (t : ByteArray) (ht : t.size ≤ 3000) (c : UInt8) (l : List UInt8) (hl : bs t = c :: l) :
    ∃ n : Int, Ev (fun k => lex_one.f k t) (tup (oneS (c :: l)).1 0 n (oneS (c :: l)).2.2) ∧ ((oneS (c :: l)).2.2 = 0 → n = ((oneS (c :: l)).2.1 : Int)) := by
  have hsz : t.size = l.length + 1 := by rw [← bs_len, hl]; rfl
  have hb0 : bt t 0 = (c.toNat : Int) := by
    have h1 : bt t 0 = ((t.get! 0).toNat : Int) := bt_nat t 0
    have h2 := bs_get t 0 (by omega)
    rw [hl] at h2
    rw [h1, ← Option.some.inj h2]
  have hx : bs (t.extract 1 t.size) = l := by rw [bs_tail, hl]; rfl
  have hcont : ∀ d : UInt8, bs (t.extract 1 (1 + ((ahead d l).length : Int)).toNat) = ahead d l := by
    intro d
    rw [bs_ext, hl]
    have e : (1 + ((ahead d l).length : Int)).toNat - 1 = (ahead d l).length := by omega
    rw [e]
    exact take_ahead d l
  have hsmall : ∀ d : UInt8, (t.extract 1 (1 + ((ahead d l).length : Int)).toNat).size ≤ 3000 := by
    intro d
    rw [ByteArray.size_extract]; omega
  unfold lex_one.f
  simp only [if_pos (show 0 < t.size ∧ t.size ≤ 281474976710656 by omega), hb0]
  unfold oneS
  by_cases h1 : shortK (c.toNat : Int) ≠ 0
  · simp only [if_pos h1]
    exact ⟨1, Ev.now _, fun _ => rfl⟩
  simp only [if_neg h1]
  have lit : ∀ n : Nat, n < 256 → (((c.toNat : Int) = (n : Int)) ↔ c = UInt8.ofNat n) := fun n hn => u8_lit c n hn
  by_cases h2 : c = 46
  · have h2' : (c.toNat : Int) = 46 := (lit 46 (by decide)).2 h2
    simp only [if_pos h2', if_pos h2]
    have hn := not_cls (fun _ => false)
    rw [cls_none] at hn
    simp only [hn, Option.bind_some, Bool.not_false]
    exact ⟨1, Ev.now _, fun _ => rfl⟩
  have h2' : ¬ (c.toNat : Int) = 46 := fun q => h2 ((lit 46 (by decide)).1 q)
  simp only [if_neg h2', if_neg h2]
  by_cases h3 : c = 60
  · have h3' : (c.toNat : Int) = 60 := (lit 60 (by decide)).2 h3
    simp only [if_pos h3', if_pos h3]
    unfold oneLong
    simp only [idx_f _ 62 62 rfl, hx, Option.bind_some]
    by_cases hm : 62 ∈ l
    · have hge : ¬ ((ahead 62 l).length : Int) < 0 := by omega
      simp only [if_pos hm, if_neg hge]
      have hb := lexbytes_eq (t.extract 1 (1 + ((ahead 62 l).length : Int)).toNat) (hsmall 62)
      rw [hcont 62] at hb
      refine ⟨((ahead 62 l).length : Int) + 2, Ev.bind hb ?_, ?_⟩
      · cases bytesS (ahead 62 l) <;> exact Ev.now _
      · cases bytesS (ahead 62 l) with
        | none => intro q; exact absurd q (by simp [errT])
        | some q => intro _; simp
    · simp only [if_neg hm, if_pos (show (-1 : Int) < 0 by decide)]
      exact ⟨0, Ev.now _, fun q => absurd q (by simp [errT])⟩
  have h3' : ¬ (c.toNat : Int) = 60 := fun q => h3 ((lit 60 (by decide)).1 q)
  simp only [if_neg h3', if_neg h3]
  by_cases h4 : c = 34
  · have h4' : (c.toNat : Int) = 34 := (lit 34 (by decide)).2 h4
    simp only [if_pos h4', if_pos h4]
    unfold oneLong
    simp only [idx_f _ 34 34 rfl, hx, Option.bind_some]
    by_cases hm : 34 ∈ l
    · have hge : ¬ ((ahead 34 l).length : Int) < 0 := by omega
      simp only [if_pos hm, if_neg hge]
      have hc := hcont 34
      have hbs : t.extract 1 (1 + ((ahead 34 l).length : Int)).toNat = ⟨(ahead 34 l).toArray⟩ := bs_inj (by rw [hc, bs_mk])
      rw [hbs]
      unfold lex_text.f lex_Utf8.f
      have he : ((⟨(ahead 34 l).toArray⟩ : ByteArray).toList = ([] : List UInt8)) ↔ ahead 34 l = [] := toList_nil _
      refine ⟨((ahead 34 l).length : Int) + 2, ?_, ?_⟩
      · by_cases h5 : ahead 34 l = []
        · simp only [if_pos (he.2 h5), if_pos h5]
          exact Ev.now _
        · simp only [if_neg (fun q => h5 (he.1 q)), if_neg h5, Option.bind_some]
          have e : utf8From ⟨(ahead 34 l).toArray⟩ (⟨(ahead 34 l).toArray⟩ : ByteArray).size 0 = okU (ahead 34 l) := rfl
          rw [e]
          cases okU (ahead 34 l) <;> exact Ev.now _
      · by_cases h5 : ahead 34 l = []
        · simp only [if_pos h5]
          intro q; exact absurd q (by simp [errT])
        · simp only [if_neg h5]
          cases okU (ahead 34 l) with
          | false => intro q; exact absurd q (by simp [errT])
          | true => intro _; simp
    · simp only [if_neg hm, if_pos (show (-1 : Int) < 0 by decide)]
      exact ⟨0, Ev.now _, fun q => absurd q (by simp [errT])⟩
  have h4' : ¬ (c.toNat : Int) = 34 := fun q => h4 ((lit 34 (by decide)).1 q)
  simp only [if_neg h4', if_neg h4]
  by_cases h5 : c = 123
  · have h5' : (c.toNat : Int) = 123 := (lit 123 (by decide)).2 h5
    simp only [if_pos h5', if_pos h5]
    unfold oneLong
    simp only [idx_f _ 125 125 rfl, hx, Option.bind_some]
    by_cases hm : 125 ∈ l
    · have hge : ¬ ((ahead 125 l).length : Int) < 0 := by omega
      simp only [if_pos hm, if_neg hge]
      have hb := repeat_eq (t.extract 1 (1 + ((ahead 125 l).length : Int)).toNat) (by have := hsmall 125; omega)
      rw [hcont 125] at hb
      refine ⟨((ahead 125 l).length : Int) + 2, Ev.bind hb ?_, ?_⟩
      · unfold repTok
        by_cases h0 : (repSpec (ahead 125 l)).2.2 = 0
        · simp only [if_pos h0]; exact Ev.now _
        · simp only [if_neg h0]; exact Ev.now _
      · by_cases h0 : (repSpec (ahead 125 l)).2.2 = 0
        · simp only [if_pos h0]; intro _; simp
        · simp only [if_neg h0]; intro q; exact absurd q h0
    · simp only [if_neg hm, if_pos (show (-1 : Int) < 0 by decide)]
      exact ⟨0, Ev.now _, fun q => absurd q (by simp [errT])⟩
  have h5' : ¬ (c.toNat : Int) = 123 := fun q => h5 ((lit 123 (by decide)).1 q)
  simp only [if_neg h5', if_neg h5]
  exact ⟨0, Ev.now _, fun q => absurd q (by simp [errT])⟩
theorem short_eq (c : Int) : Ev (fun k => scantlingref03_short.f k c) (shortK c) := by
  have go : ∀ (j : Nat) (b v : Int) (hj : j < 6) (hb : bt (⟨#[40, 41, 124, 42, 98, 119]⟩ : ByteArray) (j : Int) = b) (hv : rd [3, 4, 5, 6, 8, 9] (j : Int) = v) (r : Int),
      Ev (fun k => if b = c then some v else scantlingref03_short.l0 k c (⟨#[40, 41, 124, 42, 98, 119]⟩ : ByteArray) [3, 4, 5, 6, 8, 9] ((j + 1 : Nat) : Int)) r → Ev (fun k => scantlingref03_short.l0 k c (⟨#[40, 41, 124, 42, 98, 119]⟩ : ByteArray) [3, 4, 5, 6, 8, 9] (j : Int)) r := by
    intro j b v hj hb hv r h
    refine Ev.step (fun k => ?_) h
    have e1 : (⟨#[40, 41, 124, 42, 98, 119]⟩ : ByteArray).size = 6 := rfl
    have e2 : ([3, 4, 5, 6, 8, 9] : List Int).length = 6 := rfl
    rw [scantlingref03_short.l0, e1, e2, hb, hv, w64 (by omega) (by omega), if_pos (by omega), if_pos (by omega)]
    by_cases q : b = c
    · rw [if_pos q, if_pos q, if_pos (by omega)]
    · rw [if_neg q, if_neg q]
      rfl
  unfold scantlingref03_short.f shortK
  refine go 0 40 3 (by decide) rfl rfl _ ?_
  by_cases h1 : c = 40
  · simp only [if_pos h1, if_pos h1.symm]; exact Ev.now _
  simp only [if_neg h1, if_neg (Ne.symm h1)]
  refine go 1 41 4 (by decide) rfl rfl _ ?_
  by_cases h1 : c = 41
  · simp only [if_pos h1, if_pos h1.symm]; exact Ev.now _
  simp only [if_neg h1, if_neg (Ne.symm h1)]
  refine go 2 124 5 (by decide) rfl rfl _ ?_
  by_cases h1 : c = 124
  · simp only [if_pos h1, if_pos h1.symm]; exact Ev.now _
  simp only [if_neg h1, if_neg (Ne.symm h1)]
  refine go 3 42 6 (by decide) rfl rfl _ ?_
  by_cases h1 : c = 42
  · simp only [if_pos h1, if_pos h1.symm]; exact Ev.now _
  simp only [if_neg h1, if_neg (Ne.symm h1)]
  refine go 4 98 8 (by decide) rfl rfl _ ?_
  by_cases h1 : c = 98
  · simp only [if_pos h1, if_pos h1.symm]; exact Ev.now _
  simp only [if_neg h1, if_neg (Ne.symm h1)]
  refine go 5 119 9 (by decide) rfl rfl _ ?_
  by_cases h1 : c = 119
  · simp only [if_pos h1, if_pos h1.symm]; exact Ev.now _
  simp only [if_neg h1, if_neg (Ne.symm h1)]
  refine Ev.step (f := fun _ => some 0) (fun k => ?_) (Ev.now _)
  rw [scantlingref03_short.l0, if_neg (by decide)]
theorem end_loop (s : ByteArray) (hs : s.size ≤ 4000) (c : UInt8) : ∀ (d p : Nat), p + d = s.size → Ev (fun k => scantlingref03_end.l0 k s (c.toNat : Int) (p : Int)) (if c ∈ (bs s).drop p then ((p + (ahead c ((bs s).drop p)).length : Nat) : Int) else -1)
  | 0, p, h => by
    rw [drop_end s p (by omega)]
    refine Ev.step (f := fun _ => some (-1)) (fun k => ?_) (by simp; exact Ev.now _)
    rw [scantlingref03_end.l0, if_neg (by omega)]
  | d + 1, p, h => by
    have hw := Aside0.mk (show wrap64 ((p : Int) + 1) = ((p + 1 : Nat) : Int) from w64 (by omega) (by omega))
    have hbt : bt s (p : Int) = ((s.get! p).toNat : Int) := bt_nat s p
    have p1 : (p : Int) < (s.size : Int) := by omega
    have p2 : (0 : Int) ≤ (p : Int) := by omega
    rw [drop_get s p (by omega)]
    by_cases e : s.get! p = c
    · have e' : ((s.get! p).toNat : Int) = (c.toNat : Int) := by rw [e]
      rw [e, if_pos (by simp), ahead_cons_eq]
      refine Ev.step (f := fun _ => some (p : Int)) (fun k => ?_) (Ev.now _)
      rw [scantlingref03_end.l0, if_pos p1, if_pos p2, hbt, if_pos e']
    · have e' : ¬ ((s.get! p).toNat : Int) = (c.toNat : Int) := by
        intro q
        apply e
        apply UInt8.toNat_inj.1
        omega
      rw [ahead_cons_ne _ e]
      have ih := end_loop s hs c d (p + 1) (by omega)
      refine Ev.step (f := fun k => scantlingref03_end.l0 k s (c.toNat : Int) ((p + 1 : Nat) : Int)) (fun k => ?_) ?_
      · rw [scantlingref03_end.l0, if_pos p1, if_pos p2, hbt, if_neg e', hw.out]
      · by_cases hm : c ∈ (bs s).drop (p + 1)
        · rw [if_pos hm] at ih
          rw [if_pos (by simp [hm])]
          have : p + (s.get! p :: ahead c ((bs s).drop (p + 1))).length = p + 1 + (ahead c ((bs s).drop (p + 1))).length := by rw [List.length_cons]; omega
          rw [this]
          exact ih
        · rw [if_neg hm] at ih
          rw [if_neg (by simp [hm, Ne.symm e])]
          exact ih
theorem end_eq (s : ByteArray) (hs : s.size ≤ 4000) (i : Nat) (hi : i < s.size) (c : UInt8) : Ev (fun k => scantlingref03_end.f k s (i : Int) (c.toNat : Int)) (if c ∈ (bs s).drop (i + 1) then ((i + 1 + (ahead c ((bs s).drop (i + 1))).length : Nat) : Int) else -1) := by
  unfold scantlingref03_end.f
  have hw : wrap64 ((i : Int) + 1) = ((i + 1 : Nat) : Int) := w64 (by omega) (by omega)
  simp only [hw]
  exact end_loop s hs c (s.size - (i + 1)) (i + 1) (by omega)
abbrev R11 := Int × Int × Int × Int × Int × Int × ByteArray × Int × Int × Int × Int
def er (i : Nat) (e : Int) : R11 := (0, (i : Int), 0, 0, 0, 0, noT, 0, 0, 0, e)
def repO (C : List UInt8) : Tk × Nat × Int := if (refRep C).2.2 = 0 then (tkOf 7 noC noT (refRep C).1 (refRep C).2.1, C.length + 2, 0) else errT (refRep C).2.2
theorem fin_err {G : Nat → Option R11} {C : List UInt8} {i : Nat} (e : Int) (he : e ≠ 0) (hR : refRep C = (0, 0, e)) (h : Ev G (er i e)) :
    ∃ r, Ev G r ∧ r.2.2.2.2.2.2.2.2.2.2 = (repO C).2.2 ∧ ((repO C).2.2 = 0 → r = tup (repO C).1 (i : Int) ((i + (repO C).2.1 : Nat) : Int) 0) := by
  have e1 : repO C = errT e := by unfold repO; rw [hR, if_neg he]
  rw [e1]
  exact ⟨er i e, h, rfl, fun q => absurd q he⟩
theorem fin_ok {G : Nat → Option R11} {C : List UInt8} {i : Nat} (lo hi : Int) (hR : refRep C = (lo, hi, 0)) (h : Ev G (7, (i : Int), 0, 0, 0, 0, noT, lo, hi, ((i + (C.length + 2) : Nat) : Int), 0)) :
    ∃ r, Ev G r ∧ r.2.2.2.2.2.2.2.2.2.2 = (repO C).2.2 ∧ ((repO C).2.2 = 0 → r = tup (repO C).1 (i : Int) ((i + (repO C).2.1 : Nat) : Int) 0) := by
  have e1 : repO C = (tkOf 7 noC noT lo hi, C.length + 2, 0) := by unfold repO; rw [hR, if_pos rfl]
  rw [e1]
  exact ⟨_, h, rfl, fun _ => rfl⟩
theorem one_ref (s : ByteArray) (hs : s.size ≤ 3000) (i : Nat) (hi : i < s.size) :
    ∃ r, Ev (fun k => scantlingref03_one.f k s (i : Int)) r ∧ r.2.2.2.2.2.2.2.2.2.2 = (oneS ((bs s).drop i)).2.2 ∧
      ((oneS ((bs s).drop i)).2.2 = 0 → r = tup (oneS ((bs s).drop i)).1 (i : Int) ((i + (oneS ((bs s).drop i)).2.1 : Nat) : Int) 0) := by
  have hd := drop_get s i hi
  have hbt : bt s (i : Int) = ((s.get! i).toNat : Int) := bt_nat s i
  have hsp : (shortK ((s.get! i).toNat : Int) > 0) ↔ shortK ((s.get! i).toNat : Int) ≠ 0 := by
    unfold shortK
    repeat' split
    all_goals decide
  have hw := Aside0.mk (show wrap64 ((i : Int) + 1) = ((i + 1 : Nat) : Int) from w64 (by omega) (by omega))
  have hend := fun c => end_eq s (by omega) i hi c
  have hroom : ∀ c : UInt8, c ∈ (bs s).drop (i + 1) → i + 1 + (ahead c ((bs s).drop (i + 1))).length < s.size := by
    intro c hm
    rcases from1_cases c ((bs s).drop (i + 1)) with ⟨h1, _⟩ | ⟨_, r, _, h3⟩
    · exact absurd hm h1
    · have := congrArg List.length h3
      rw [List.length_append, List.length_cons, List.length_drop, bs_len] at this
      omega
  have hcont : ∀ c : UInt8, bs (s.extract (i + 1) (i + 1 + (ahead c ((bs s).drop (i + 1))).length)) = ahead c ((bs s).drop (i + 1)) := by
    intro c
    rw [bs_ext]
    have e : i + 1 + (ahead c ((bs s).drop (i + 1))).length - (i + 1) = (ahead c ((bs s).drop (i + 1))).length := by omega
    rw [e]
    exact take_ahead c _
  have p1 : (0 : Int) ≤ (i : Int) := by omega
  have p2 : (i : Int) < (s.size : Int) := by omega
  have p3 : (0 : Int) ≤ ((i + 1 : Nat) : Int) := by omega
  have lit : ∀ n : Nat, n < 256 → ((((s.get! i).toNat : Int) = (n : Int)) ↔ s.get! i = UInt8.ofNat n) := fun n hn => u8_lit _ n hn
  rw [hd]
  unfold scantlingref03_one.f
  simp only [if_pos p1, if_pos p2, hbt, hw.out]
  generalize hL : (bs s).drop (i + 1) = L at *
  generalize hcc : s.get! i = c at *
  unfold oneS
  by_cases h1 : shortK (c.toNat : Int) ≠ 0
  · simp only [if_pos h1]
    refine ⟨_, Ev.bind (short_eq _) ?_, rfl, fun _ => rfl⟩
    simp only [if_pos (hsp.2 h1)]
    exact Ev.bind (short_eq _) (Ev.now _)
  simp only [if_neg h1]
  have h1' : ¬ shortK (c.toNat : Int) > 0 := fun q => h1 (hsp.1 q)
  have wrapE : ∀ (A B : Nat → Option (Int × Int × Int × Int × Int × Int × ByteArray × Int × Int × Int × Int)) (r : Int × Int × Int × Int × Int × Int × ByteArray × Int × Int × Int × Int), Ev B r → Ev (fun k => (scantlingref03_short.f k (c.toNat : Int)).bind fun t308 => if t308 > 0 then A k else B k) r := by
    intro A B r h
    refine Ev.bind (short_eq _) ?_
    simp only [if_neg h1']
    exact h
  by_cases h2 : c = 46
  · have h2' : (c.toNat : Int) = 46 := (lit 46 (by decide)).2 h2
    simp only [if_pos h2', if_pos h2]
    refine ⟨_, wrapE _ _ _ (Ev.bind (row_eq 0 255 (by decide) (by decide)) (Ev.now _)), rfl, fun _ => ?_⟩
    have e : cls (rowP 0 255) = cls (fun _ => true) := cls_congr fun j hj => by unfold rowP; simp; omega
    rw [e]
    rfl
  have h2' : ¬ (c.toNat : Int) = 46 := fun q => h2 ((lit 46 (by decide)).1 q)
  simp only [if_neg h2', if_neg h2]
  by_cases h3 : c = 60
  · have h3' : (c.toNat : Int) = 60 := (lit 60 (by decide)).2 h3
    simp only [if_pos h3', if_pos h3]
    by_cases hm : 62 ∈ L
    · have he := hend 62
      rw [if_pos hm] at he
      have hr := hroom 62 hm
      have q1 : ¬ ((i + 1 + (ahead 62 L).length : Nat) : Int) < 0 := by omega
      have q2 : ((i + 1 : Nat) : Int) ≤ ((i + 1 + (ahead 62 L).length : Nat) : Int) := by omega
      have q3 : ((i + 1 + (ahead 62 L).length : Nat) : Int) ≤ (s.size : Int) := by omega
      obtain ⟨r, hb1, hb2⟩ := refbytes_eq (s.extract (i + 1) (i + 1 + (ahead 62 L).length)) (by rw [ByteArray.size_extract]; omega)
      rw [hcont 62] at hb2
      simp only [if_pos hm]
      have hw2 := Aside0.mk (show wrap64 (((i + 1 + (ahead 62 L).length : Nat) : Int) + 1) = ((i + ((ahead 62 L).length + 2) : Nat) : Int) by rw [w64 (by omega) (by omega)]; omega)
      cases hbS : bytesS (ahead 62 L) with
      | none =>
        rw [hbS] at hb2
        have hb3 : r.2.2.2.2 = false := hb2
        refine ⟨er i 2, wrapE _ _ _ (Ev.bind he ?_), rfl, fun q => absurd q (by simp [errT])⟩
        simp only [if_neg q1, if_pos p3, if_pos q2, if_pos q3, Int.toNat_natCast]
        refine Ev.bind hb1 ?_
        simp only [hb3, Bool.false_eq_true, if_false]
        exact Ev.now _
      | some q =>
        rw [hbS] at hb2
        have hb3 : r = _ := hb2
        subst hb3
        refine ⟨tup (tkOf 1 (cls (Qn (decide ((ahead 62 L).head? = some 94)) q)) noT 0 0) (i : Int) ((i + ((ahead 62 L).length + 2) : Nat) : Int) 0, wrapE _ _ _ (Ev.bind he ?_), rfl, fun _ => rfl⟩
        simp only [if_neg q1, if_pos p3, if_pos q2, if_pos q3, Int.toNat_natCast]
        refine Ev.bind hb1 ?_
        simp only [if_true, hw2.out]
        exact Ev.now _
    · have he := hend 62
      rw [if_neg hm] at he
      simp only [if_neg hm]
      refine ⟨er i 2, wrapE _ _ _ (Ev.bind he ?_), rfl, fun q => absurd q (by simp [errT])⟩
      simp only [if_pos (show (-1 : Int) < 0 by decide)]
      exact Ev.now _
  have h3' : ¬ (c.toNat : Int) = 60 := fun q => h3 ((lit 60 (by decide)).1 q)
  simp only [if_neg h3', if_neg h3]
  by_cases h4 : c = 34
  · have h4' : (c.toNat : Int) = 34 := (lit 34 (by decide)).2 h4
    simp only [if_pos h4', if_pos h4]
    by_cases hm : 34 ∈ L
    · have he := hend 34
      rw [if_pos hm] at he
      have hr := hroom 34 hm
      have q1 : ¬ ((i + 1 + (ahead 34 L).length : Nat) : Int) < 0 := by omega
      have q2 : ((i + 1 : Nat) : Int) ≤ ((i + 1 + (ahead 34 L).length : Nat) : Int) := by omega
      have q3 : ((i + 1 + (ahead 34 L).length : Nat) : Int) ≤ (s.size : Int) := by omega
      simp only [if_pos hm]
      have hw2 := Aside0.mk (show wrap64 (((i + 1 + (ahead 34 L).length : Nat) : Int) + 1) = ((i + ((ahead 34 L).length + 2) : Nat) : Int) by rw [w64 (by omega) (by omega)]; omega)
      have hbs : s.extract (i + 1) (i + 1 + (ahead 34 L).length) = ⟨(ahead 34 L).toArray⟩ := bs_inj (by rw [hcont 34, bs_mk])
      by_cases h5 : ahead 34 L = []
      · simp only [if_pos h5]
        have q4 : ((i + 1 + (ahead 34 L).length : Nat) : Int) = ((i + 1 : Nat) : Int) := by rw [h5]; rfl
        refine ⟨er i 3, wrapE _ _ _ (Ev.bind he ?_), rfl, fun q => absurd q (by simp [errT])⟩
        simp only [if_neg q1, if_pos q4]
        exact Ev.now _
      · simp only [if_neg h5]
        have hpos := List.length_pos_iff.2 h5
        have q4 : ¬ ((i + 1 + (ahead 34 L).length : Nat) : Int) = ((i + 1 : Nat) : Int) := by omega
        have hu := utf8_same ⟨(ahead 34 L).toArray⟩ (by show (ahead 34 L).toArray.size ≤ _; rw [List.size_toArray]; omega)
        have e : utf8From ⟨(ahead 34 L).toArray⟩ (⟨(ahead 34 L).toArray⟩ : ByteArray).size 0 = okU (ahead 34 L) := rfl
        rw [e] at hu
        cases hok : okU (ahead 34 L) with
        | false =>
          rw [hok] at hu
          refine ⟨er i 3, wrapE _ _ _ (Ev.bind he ?_), rfl, fun q => absurd q (by simp [errT])⟩
          simp only [if_neg q1, if_neg q4, if_pos p3, if_pos q2, if_pos q3, Int.toNat_natCast, hbs]
          refine Ev.bind hu ?_
          simp only [Bool.false_eq_true, if_false]
          exact Ev.now _
        | true =>
          rw [hok] at hu
          refine ⟨tup (tkOf 2 noC ⟨(ahead 34 L).toArray⟩ 0 0) (i : Int) ((i + ((ahead 34 L).length + 2) : Nat) : Int) 0, wrapE _ _ _ (Ev.bind he ?_), rfl, fun _ => rfl⟩
          simp only [if_neg q1, if_neg q4, if_pos p3, if_pos q2, if_pos q3, Int.toNat_natCast, hbs]
          refine Ev.bind hu ?_
          simp only [if_true, hw2.out]
          exact Ev.now _
    · have he := hend 34
      rw [if_neg hm] at he
      simp only [if_neg hm]
      refine ⟨er i 3, wrapE _ _ _ (Ev.bind he ?_), rfl, fun q => absurd q (by simp [errT])⟩
      simp only [if_pos (show (-1 : Int) < 0 by decide)]
      exact Ev.now _
  have h4' : ¬ (c.toNat : Int) = 34 := fun q => h4 ((lit 34 (by decide)).1 q)
  simp only [if_neg h4', if_neg h4]
  by_cases h5 : c = 123
  · have h5' : (c.toNat : Int) = 123 := (lit 123 (by decide)).2 h5
    simp only [if_pos h5', if_pos h5]
    by_cases hm : 125 ∈ L
    · have he := hend 125
      rw [if_pos hm] at he
      have hr := hroom 125 hm
      simp only [if_pos hm]
      generalize hC : ahead 125 L = C at *
      have q1 : ¬ ((i + 1 + C.length : Nat) : Int) < 0 := by omega
      have q1' : (0 : Int) ≤ ((i + 1 + C.length : Nat) : Int) := by omega
      have q3 : ((i + 1 + C.length : Nat) : Int) ≤ (s.size : Int) := by omega
      have hw2 := Aside0.mk (show wrap64 (((i + 1 + C.length : Nat) : Int) + 1) = ((i + (C.length + 2) : Nat) : Int) by rw [w64 (by omega) (by omega)]; omega)
      have hE : bs (s.extract 0 (i + 1 + C.length)) = (bs s).take (i + 1 + C.length) := by rw [bs_ext]; rfl
      have hEs : (s.extract 0 (i + 1 + C.length)).size = i + 1 + C.length := by rw [ByteArray.size_extract]; omega
      have hEd : ∀ j, (bs (s.extract 0 (i + 1 + C.length))).drop (i + 1 + j) = C.drop j := by
        intro j
        have hc2 := hcont 125
        rw [hC, bs_ext, hL, show i + 1 + C.length - (i + 1) = C.length by omega] at hc2
        rw [hE, ← List.drop_drop, List.drop_take, hL, show i + 1 + C.length - (i + 1) = C.length by omega, hc2]
      have hsC : ∀ j, j < C.length → s.get! (i + 1 + j) = C[j]! := by
        intro j hj
        have h6 := bs_get s (i + 1 + j) (by omega)
        have h7 : ((bs s).drop (i + 1))[j]? = some (s.get! (i + 1 + j)) := by rw [List.getElem?_drop]; exact h6
        have hc2 := hcont 125
        rw [hC, bs_ext, hL, show i + 1 + C.length - (i + 1) = C.length by omega] at hc2
        rw [hL] at h7
        have h8 : C[j]? = some (s.get! (i + 1 + j)) := by rw [← hc2, List.getElem?_take, if_pos hj]; exact h7
        rw [List.getElem!_eq_getElem?_getD, h8]; rfl
      rw [← rep_same]
      show ∃ r, _ ∧ r.2.2.2.2.2.2.2.2.2.2 = (repO C).2.2 ∧ ((repO C).2.2 = 0 → r = tup (repO C).1 (i : Int) ((i + (repO C).2.1 : Nat) : Int) 0)
      have n1 := refnum_eq (s.extract 0 (i + 1 + C.length)) (by omega) (i + 1) (by omega)
      have hd0 := hEd 0
      rw [Nat.add_zero, List.drop_zero] at hd0
      rw [hd0] at n1
      have hxle : (refNum C).2 ≤ C.length := dig_len_le C
      have J0t : ∀ x13 x14 : Int, Ev (fun k => scantlingref03_one.j0 k s ((i + 1 + C.length : Nat) : Int) x13 x14 true 0 (i : Int) 0 0 0 0 noT 0 0) (0, (i : Int), 0, 0, 0, 0, noT, 0, 0, 0, 4) :=
        fun x13 x14 => Ev.step (f := fun _ => some _) (fun k => by rw [scantlingref03_one.j0, if_pos rfl]) (Ev.now _)
      cases hn1 : (refNum C).1 with
      | none =>
        rw [hn1] at n1
        refine fin_err 4 (by decide) (by unfold refRep; rw [hn1]) (wrapE _ _ _ (Ev.bind he ?_))
        simp only [if_neg q1, if_pos q1', if_pos q3, Int.toNat_natCast]
        refine Ev.bind n1 ?_
        simp only [if_pos (show (-1 : Int) < 0 by decide)]
        exact J0t _ _
      | some lo =>
        rw [hn1] at n1
        have z1 : ¬ (lo : Int) < 0 := by omega
        by_cases hcom : C[(refNum C).2]? = some 44
        · have hlt : (refNum C).2 < C.length := by
            rcases Nat.lt_or_ge (refNum C).2 C.length with h | h
            · exact h
            · rw [List.getElem?_eq_none h] at hcom; cases hcom
          have hg : s.get! (i + 1 + (refNum C).2) = 44 := by
            rw [hsC _ hlt, List.getElem!_eq_getElem?_getD, hcom]; rfl
          have hbx : bt s ((i + 1 + (refNum C).2 : Nat) : Int) = 44 := by rw [bt_nat, bN, hg]; rfl
          have z2 : ¬ ((i + 1 + (refNum C).2 : Nat) : Int) ≥ ((i + 1 + C.length : Nat) : Int) := by omega
          have z3 : (0 : Int) ≤ ((i + 1 + (refNum C).2 : Nat) : Int) := by omega
          have z4 : ((i + 1 + (refNum C).2 : Nat) : Int) < (s.size : Int) := by omega
          have hw3 := Aside0.mk (show wrap64 (((i + 1 + (refNum C).2 : Nat) : Int) + 1) = ((i + 1 + ((refNum C).2 + 1) : Nat) : Int) by rw [w64 (by omega) (by omega)]; omega)
          have n2 := refnum_eq (s.extract 0 (i + 1 + C.length)) (by omega) (i + 1 + ((refNum C).2 + 1)) (by omega)
          rw [hEd] at n2
          have start : ∀ r, Ev (fun k => (scantlingref03_number.f k (s.extract 0 (i + 1 + C.length)) ((i + 1 + ((refNum C).2 + 1) : Nat) : Int)).bind fun bt326 => (if bt326.1 < 0 then (scantlingref03_one.j1 k ((i + 1 + C.length : Nat) : Int) (lo : Int) bt326.1 true 0 (i : Int) 0 0 0 0 noT 0 0) else (scantlingref03_one.j1 k ((i + 1 + C.length : Nat) : Int) (lo : Int) bt326.1 (bt326.2 != ((i + 1 + C.length : Nat) : Int)) 0 (i : Int) 0 0 0 0 noT 0 0))) r →
              Ev (fun k => (scantlingref03_number.f k (s.extract 0 (i + 1 + C.length)) ((i + 1 : Nat) : Int)).bind fun bt324 => (if bt324.1 < 0 then (scantlingref03_one.j0 k s ((i + 1 + C.length : Nat) : Int) bt324.1 bt324.2 true 0 (i : Int) 0 0 0 0 noT 0 0) else (if bt324.2 ≥ ((i + 1 + C.length : Nat) : Int) then (scantlingref03_one.j0 k s ((i + 1 + C.length : Nat) : Int) bt324.1 bt324.2 true 0 (i : Int) 0 0 0 0 noT 0 0) else (if 0 ≤ bt324.2 then (if bt324.2 < (s.size : Int) then (scantlingref03_one.j0 k s ((i + 1 + C.length : Nat) : Int) bt324.1 bt324.2 ((bt s bt324.2) != 44) 0 (i : Int) 0 0 0 0 noT 0 0) else (none)) else (none))))) r := by
            intro r h
            refine Ev.bind n1 ?_
            simp only [if_neg z1, if_neg z2, if_pos z3, if_pos z4, hbx, show ((44 : Int) != 44) = false by decide]
            refine Ev.step (fun k => ?_) h
            rw [scantlingref03_one.j0, if_neg (by decide), if_pos q1', if_pos q3, hw3.out, Int.toNat_natCast]
          cases hn2 : (refNum (C.drop ((refNum C).2 + 1))).1 with
          | none =>
            rw [hn2] at n2
            refine fin_err 4 (by decide) (by unfold refRep; rw [hn1]; simp only; rw [if_pos hcom, hn2]) (wrapE _ _ _ (Ev.bind he ?_))
            simp only [if_neg q1, if_pos q1', if_pos q3, Int.toNat_natCast]
            refine start _ (Ev.bind n2 ?_)
            simp only [if_pos (show (-1 : Int) < 0 by decide)]
            exact Ev.step (f := fun _ => some _) (fun k => by rw [scantlingref03_one.j1, if_pos rfl]; rfl) (Ev.now _)
          | some hi =>
            rw [hn2] at n2
            have z5 : ¬ (hi : Int) < 0 := by omega
            by_cases hy : (refNum C).2 + 1 + (refNum (C.drop ((refNum C).2 + 1))).2 = C.length
            · have hne : (((i + 1 + ((refNum C).2 + 1) + (refNum (C.drop ((refNum C).2 + 1))).2 : Nat) : Int) != ((i + 1 + C.length : Nat) : Int)) = false := by
                rw [bne_eq_false_iff_eq]; omega
              have start2 : ∀ r, Ev (fun k => scantlingref03_one.j1 k ((i + 1 + C.length : Nat) : Int) (lo : Int) (hi : Int) false 0 (i : Int) 0 0 0 0 noT 0 0) r → Ev (fun k => (scantlingref03_number.f k (s.extract 0 (i + 1 + C.length)) ((i + 1 + ((refNum C).2 + 1) : Nat) : Int)).bind fun bt326 => (if bt326.1 < 0 then (scantlingref03_one.j1 k ((i + 1 + C.length : Nat) : Int) (lo : Int) bt326.1 true 0 (i : Int) 0 0 0 0 noT 0 0) else (scantlingref03_one.j1 k ((i + 1 + C.length : Nat) : Int) (lo : Int) bt326.1 (bt326.2 != ((i + 1 + C.length : Nat) : Int)) 0 (i : Int) 0 0 0 0 noT 0 0))) r := by
                intro r h
                refine Ev.bind n2 ?_
                simp only [if_neg z5, hne]
                exact h
              by_cases hbd : 255 < hi ∨ hi < lo
              · refine fin_err 5 (by decide) (by unfold refRep; rw [hn1]; simp only; rw [if_pos hcom, hn2]; simp only; rw [if_pos hy]; unfold bounds; rw [if_pos hbd]) (wrapE _ _ _ (Ev.bind he ?_))
                simp only [if_neg q1, if_pos q1', if_pos q3, Int.toNat_natCast]
                refine start _ (start2 (0, (i : Int), 0, 0, 0, 0, noT, 0, 0, 0, 5) ?_)
                refine Ev.step (f := fun _ => some _) (fun k => ?_) (Ev.now _)
                rw [scantlingref03_one.j1, if_neg (by decide)]
                by_cases h6 : 255 < hi
                · rw [if_pos (by omega)]
                · rw [if_neg (by omega), if_pos (by omega)]
              · refine fin_ok (lo : Int) (hi : Int) (by unfold refRep; rw [hn1]; simp only; rw [if_pos hcom, hn2]; simp only; rw [if_pos hy]; unfold bounds; rw [if_neg hbd]) (wrapE _ _ _ (Ev.bind he ?_))
                simp only [if_neg q1, if_pos q1', if_pos q3, Int.toNat_natCast]
                refine start _ (start2 _ ?_)
                refine Ev.step (f := fun _ => some (7, (i : Int), 0, 0, 0, 0, noT, (lo : Int), (hi : Int), ((i + (C.length + 2) : Nat) : Int), 0)) (fun k => ?_) (Ev.now _)
                rw [scantlingref03_one.j1, if_neg (by decide), if_neg (by omega), if_neg (by omega), hw2.out]
            · have hne : (((i + 1 + ((refNum C).2 + 1) + (refNum (C.drop ((refNum C).2 + 1))).2 : Nat) : Int) != ((i + 1 + C.length : Nat) : Int)) = true := by
                rw [bne_iff_ne]; omega
              refine fin_err 4 (by decide) (by unfold refRep; rw [hn1]; simp only; rw [if_pos hcom, hn2]; simp only; rw [if_neg hy]) (wrapE _ _ _ (Ev.bind he ?_))
              simp only [if_neg q1, if_pos q1', if_pos q3, Int.toNat_natCast]
              refine start _ (Ev.bind n2 ?_)
              simp only [if_neg z5, hne]
              exact Ev.step (f := fun _ => some _) (fun k => by rw [scantlingref03_one.j1, if_pos rfl]; rfl) (Ev.now _)
        · refine fin_err 4 (by decide) (by unfold refRep; rw [hn1]; simp only; rw [if_neg hcom]) (wrapE _ _ _ (Ev.bind he ?_))
          simp only [if_neg q1, if_pos q1', if_pos q3, Int.toNat_natCast]
          refine Ev.bind n1 ?_
          simp only [if_neg z1]
          by_cases hx : (refNum C).2 < C.length
          · have z2 : ¬ ((i + 1 + (refNum C).2 : Nat) : Int) ≥ ((i + 1 + C.length : Nat) : Int) := by omega
            have z3 : (0 : Int) ≤ ((i + 1 + (refNum C).2 : Nat) : Int) := by omega
            have z4 : ((i + 1 + (refNum C).2 : Nat) : Int) < (s.size : Int) := by omega
            have hg : s.get! (i + 1 + (refNum C).2) ≠ 44 := by
              intro q
              apply hcom
              rw [hsC _ hx, List.getElem!_eq_getElem?_getD, List.getElem?_eq_getElem hx] at q
              rw [List.getElem?_eq_getElem hx]
              exact congrArg some q
            have hbx : (bt s ((i + 1 + (refNum C).2 : Nat) : Int) != 44) = true := by
              rw [bne_iff_ne, bt_nat, bN]
              intro q
              apply hg
              apply UInt8.toNat_inj.1
              show (s.get! (i + 1 + (refNum C).2)).toNat = 44
              omega
            simp only [if_neg z2, if_pos z3, if_pos z4, hbx]
            exact J0t _ _
          · have z2 : ((i + 1 + (refNum C).2 : Nat) : Int) ≥ ((i + 1 + C.length : Nat) : Int) := by omega
            simp only [if_pos z2]
            exact J0t _ _
    · have he := hend 125
      rw [if_neg hm] at he
      simp only [if_neg hm]
      refine ⟨er i 4, wrapE _ _ _ (Ev.bind he ?_), rfl, fun q => absurd q (by simp [errT])⟩
      simp only [if_pos (show (-1 : Int) < 0 by decide)]
      exact Ev.now _
  have h5' : ¬ (c.toNat : Int) = 123 := fun q => h5 ((lit 123 (by decide)).1 q)
  simp only [if_neg h5', if_neg h5]
  exact ⟨er i 1, wrapE _ _ _ (Ev.now _), rfl, fun q => absurd q (by simp [errT])⟩
end Go.Proofs.YtepnbnpgifpfbaaDoor.G
namespace Go.Proofs.YtepnbnpgifpfbaaDoor.G
open Go.RowKit Go.Proofs.YtepnbnpgifpfbaaDoorW.PrintWords Go.Proofs.YtepnbnpgifpfbaaDoorW.PrintMore
def tokAt (t : Tk) (i : Nat) : S35 := ⟨t.kind, (i : Int), ⟨t.c0, t.c1, t.c2, t.c3⟩, t.text, t.lo, t.hi⟩
def endAt (i : Nat) : S35 := ⟨10, (i : Int), ⟨0, 0, 0, 0⟩, ⟨#[]⟩, 0, 0⟩
def readS : Nat → List UInt8 → Nat → List S35 → List S35 × Int × Int
  | 0, _, _, out => (out, 0, 0)
  | _ + 1, [], i, out => (out ++ [endAt i], 0, 0)
  | f + 1, c :: l, i, out =>
    if c = 32 then readS f l (i + 1) out
    else if (oneS (c :: l)).2.2 = 0 then readS f ((c :: l).drop (oneS (c :: l)).2.1) (i + (oneS (c :: l)).2.1) (out ++ [tokAt (oneS (c :: l)).1 i])
    else ([], (oneS (c :: l)).2.2, (i : Int))
theorem read_prog (s : ByteArray) (hs : s.size ≤ 3000) : ∀ (f i : Nat) (out : List S35), s.size - i < f → i ≤ s.size → out.length ≤ i → Ev (fun k => lex_Read.l0 k s out (i : Int)) (readS f ((bs s).drop i) i out)
  | 0, i, out, h, _, _ => absurd h (Nat.not_lt_zero _)
  | f + 1, i, out, h, hi, ho => by
    have hout : out.length < 1759218604441 := by omega
    by_cases hlt : i < s.size
    · have hd := drop_get s i hlt
      have hbt : bt s (i : Int) = ((s.get! i).toNat : Int) := bt_nat s i
      have hw := Aside0.mk (show wrap64 ((i : Int) + 1) = ((i + 1 : Nat) : Int) from w64 (by omega) (by omega))
      have p1 : (i : Int) < (s.size : Int) := by omega
      have p2 : (0 : Int) ≤ (i : Int) := by omega
      have p3 : (i : Int) ≤ (s.size : Int) := by omega
      rw [hd]
      simp only [readS]
      by_cases h32 : s.get! i = 32
      · rw [if_pos h32]
        have e : ((s.get! i).toNat : Int) = 32 := by rw [h32]; rfl
        refine Ev.step (fun k => ?_) (read_prog s hs f (i + 1) out (by omega) (by omega) (by omega))
        rw [lex_Read.l0, if_pos p1, if_pos p2, hbt, if_pos e, hw.out]
      · rw [if_neg h32]
        have e : ¬ ((s.get! i).toNat : Int) = 32 := by
          intro q
          apply h32
          apply UInt8.toNat_inj.1
          show (s.get! i).toNat = 32
          omega
        have hb : bs (s.extract i s.size) = s.get! i :: (bs s).drop (i + 1) := by rw [bs_tail, hd]
        obtain ⟨n, h1, h2⟩ := one_prog (s.extract i s.size) (by rw [ByteArray.size_extract]; omega) _ _ hb
        refine Ev.step (f := fun k => (lex_one.f k (s.extract i s.size)).bind fun bt170 => (if bt170.2.2.2.2.2.2.2.2.2.2 = 0 then (if out.length < 1759218604441 then (lex_Read.l0 k s (out ++ [(⟨bt170.1, (i : Int), (⟨bt170.2.2.1, bt170.2.2.2.1, bt170.2.2.2.2.1, bt170.2.2.2.2.2.1⟩ : S33), bt170.2.2.2.2.2.2.1, bt170.2.2.2.2.2.2.2.1, bt170.2.2.2.2.2.2.2.2.1⟩ : S35)]) (wrap64 ((i : Int) + bt170.2.2.2.2.2.2.2.2.2.1))) else (none)) else (some (([] : List (S35)), bt170.2.2.2.2.2.2.2.2.2.2, (i : Int))))) (fun k => by rw [lex_Read.l0, if_pos p1, if_pos p2, hbt, if_neg e, if_pos p3, Int.toNat_natCast]) ?_
        refine Ev.bind h1 ?_
        rw [← hd] at h2 ⊢
        by_cases hwhy : (oneS ((bs s).drop i)).2.2 = 0
        · have hl := oneS_len _ hwhy
          rw [List.length_drop, bs_len] at hl
          have hn := h2 hwhy
          have hw2 := Aside0.mk (show wrap64 ((i : Int) + n) = ((i + (oneS ((bs s).drop i)).2.1 : Nat) : Int) by rw [hn, w64 (by omega) (by omega)]; omega)
          simp only [tup, hwhy, if_true, if_pos hout, hw2.out, List.drop_drop]
          exact read_prog s hs f (i + (oneS ((bs s).drop i)).2.1) _ (by omega) (by omega) (by rw [List.length_append, List.length_singleton]; omega)
        · have hwf := eq_false hwhy
          simp only [tup, hwf, if_false]
          exact Ev.now _
    · have e : i = s.size := by omega
      rw [drop_end s i (by omega)]
      refine Ev.step (f := fun _ => some (out ++ [endAt i], 0, 0)) (fun k => ?_) (Ev.now _)
      rw [lex_Read.l0, if_neg (by omega), if_pos hout, e]
      rfl
theorem read_ref (s : ByteArray) (hs : s.size ≤ 3000) : ∀ (f i : Nat) (out : List S35), s.size - i < f → i ≤ s.size → out.length ≤ i → Ev (fun k => scantlingref03_Read.l0 k s out (i : Int)) (readS f ((bs s).drop i) i out)
  | 0, i, out, h, _, _ => absurd h (Nat.not_lt_zero _)
  | f + 1, i, out, h, hi, ho => by
    have hout : out.length < 1759218604441 := by omega
    by_cases hlt : i < s.size
    · have hd := drop_get s i hlt
      have hbt : bt s (i : Int) = ((s.get! i).toNat : Int) := bt_nat s i
      have hw := Aside0.mk (show wrap64 ((i : Int) + 1) = ((i + 1 : Nat) : Int) from w64 (by omega) (by omega))
      have p1 : (i : Int) < (s.size : Int) := by omega
      have p2 : (0 : Int) ≤ (i : Int) := by omega
      obtain ⟨r, h1, h2, h3⟩ := one_ref s hs i hlt
      rw [hd]
      simp only [readS]
      rw [← hd]
      by_cases h32 : s.get! i = 32
      · rw [if_pos h32]
        have e : ((s.get! i).toNat : Int) = 32 := by rw [h32]; rfl
        refine Ev.step (fun k => ?_) (read_ref s hs f (i + 1) out (by omega) (by omega) (by omega))
        rw [scantlingref03_Read.l0, if_pos p1, if_pos p2, hbt, if_pos e, hw.out]
      · rw [if_neg h32]
        have e : ¬ ((s.get! i).toNat : Int) = 32 := by
          intro q
          apply h32
          apply UInt8.toNat_inj.1
          show (s.get! i).toNat = 32
          omega
        refine Ev.step (f := fun k => (scantlingref03_one.f k s (i : Int)).bind fun bt264 => (if bt264.2.2.2.2.2.2.2.2.2.2 = 0 then (if out.length < 1759218604441 then (scantlingref03_Read.l0 k s (out ++ [(⟨bt264.1, bt264.2.1, (⟨bt264.2.2.1, bt264.2.2.2.1, bt264.2.2.2.2.1, bt264.2.2.2.2.2.1⟩ : S33), bt264.2.2.2.2.2.2.1, bt264.2.2.2.2.2.2.2.1, bt264.2.2.2.2.2.2.2.2.1⟩ : S35)]) bt264.2.2.2.2.2.2.2.2.2.1) else (none)) else (some (([] : List (S35)), bt264.2.2.2.2.2.2.2.2.2.2, (i : Int))))) (fun k => by rw [scantlingref03_Read.l0, if_pos p1, if_pos p2, hbt, if_neg e]) ?_
        refine Ev.bind h1 ?_
        by_cases hwhy : (oneS ((bs s).drop i)).2.2 = 0
        · have hl := oneS_len _ hwhy
          rw [List.length_drop, bs_len] at hl
          rw [h3 hwhy]
          simp only [tup, hwhy, if_true, if_pos hout, List.drop_drop]
          exact read_ref s hs f (i + (oneS ((bs s).drop i)).2.1) _ (by omega) (by omega) (by rw [List.length_append, List.length_singleton]; omega)
        · have hwf := eq_false hwhy
          simp only [h2, hwf, if_false]
          exact Ev.now _
    · have e : i = s.size := by omega
      rw [drop_end s i (by omega)]
      refine Ev.step (f := fun _ => some (out ++ [endAt i], 0, 0)) (fun k => ?_) (Ev.now _)
      rw [scantlingref03_Read.l0, if_neg (by omega), if_pos hout, e]
      rfl
def readA (l : List UInt8) : List S35 × Int × Int := readS (l.length + 1) l 0 []
theorem read_eq (s : ByteArray) (hs : s.size ≤ 3000) : Ev (fun k => lex_Read.f k s) (readA (bs s)) := by
  have h := read_prog s hs ((bs s).length + 1) 0 [] (by rw [bs_len]; omega) (Nat.zero_le _) (Nat.le_refl _)
  exact h
theorem readref_eq (s : ByteArray) (hs : s.size ≤ 3000) : Ev (fun k => scantlingref03_Read.f k s) (readA (bs s)) := by
  have h := read_ref s hs ((bs s).length + 1) 0 [] (by rw [bs_len]; omega) (Nat.zero_le _) (Nat.le_refl _)
  exact h
theorem same_ref (L : List S35) (hL : L.length ≤ 10000) : Ev (fun k => scantlingref03_Same.f k L L) true := by
  have loop : ∀ (d i : Nat), i + d = L.length → Ev (fun k => scantlingref03_Same.l0 k L L (i : Int)) true := by
    intro d
    induction d with
    | zero =>
      intro i h
      exact Ev.step (f := fun _ => some true) (fun k => by rw [scantlingref03_Same.l0, if_neg (by omega)]) (Ev.now _)
    | succ d ih =>
      intro i h
      have hw : wrap64 ((i : Int) + 1) = ((i + 1 : Nat) : Int) := w64 (by omega) (by omega)
      refine Ev.step (fun k => ?_) (ih (i + 1) (by omega))
      rw [scantlingref03_Same.l0, if_pos (by omega), if_pos (by omega), if_pos (by omega), hw]
      simp
  unfold scantlingref03_Same.f
  simp only [if_true]
  exact loop L.length 0 (Nat.zero_add _)
theorem same_lex (L : List S35) (hL : L.length ≤ 10000) : Ev (fun k => lex_Same.f k L L) true := by
  have loop : ∀ (d i : Nat), i + d = L.length → Ev (fun k => api_Token.l0 k L L (L.length : Int) (i : Int)) true := by
    intro d
    induction d with
    | zero =>
      intro i h
      exact Ev.step (f := fun _ => some true) (fun k => by rw [api_Token.l0, if_neg (by omega)]) (Ev.now _)
    | succ d ih =>
      intro i h
      have hw : wrap64 ((i : Int) + 1) = ((i + 1 : Nat) : Int) := w64 (by omega) (by omega)
      refine Ev.step (fun k => ?_) (ih (i + 1) (by omega))
      rw [api_Token.l0, if_pos (by omega), if_pos (by omega), if_pos (by omega), if_pos (by omega), hw]
      simp
  unfold lex_Same.f api_Token.f
  simp only [if_true]
  exact Ev.bind (loop L.length 0 (Nat.zero_add _)) (Ev.now _)
theorem readS_len : ∀ (f : Nat) (l : List UInt8) (i : Nat) (out : List S35), (readS f l i out).1.length ≤ out.length + l.length + 1
  | 0, l, i, out => by simp only [readS]; omega
  | f + 1, [], i, out => by simp [readS]
  | f + 1, c :: l, i, out => by
    simp only [readS]
    split
    · have := readS_len f l (i + 1) out
      rw [List.length_cons]; omega
    · split
      · rename_i h
        have h1 := oneS_len _ h
        have := readS_len f ((c :: l).drop (oneS (c :: l)).2.1) (i + (oneS (c :: l)).2.1) (out ++ [tokAt (oneS (c :: l)).1 i])
        rw [List.length_append, List.length_singleton, List.length_drop] at this
        omega
      · simp
theorem readA_len (l : List UInt8) : (readA l).1.length ≤ l.length + 1 := by
  have := readS_len (l.length + 1) l 0 []
  unfold readA
  simpa using this
end Go.Proofs.YtepnbnpgifpfbaaDoor.G
