/- Lemmas and walks of this claim: POne, PRead. -/
import Derived.Test.YtepnbnpgifpfbaaDoorZKb
import Derived.Test.YtepnbnpgifpfbaaDoorZKf
import Derived.Test.YtepnbnpgifpfbaaDoorZPaLexWhole
set_option linter.unusedVariables false
set_option linter.unusedSimpArgs false
namespace Go.Proofs.YtepnbnpgifpfbaaDoor.G
open Go.RowKit Go.Proofs.YtepnbnpgifpfbaaDoorW.PrintWords Go.Proofs.YtepnbnpgifpfbaaDoorW.PrintMore
structure Tk where
  kind : Int
  c0 : Int
  c1 : Int
  c2 : Int
  c3 : Int
  text : ByteArray
  lo : Int
  hi : Int
def tkOf (kind : Int) (c : Int × Int × Int × Int) (text : ByteArray) (lo hi : Int) : Tk := ⟨kind, c.1, c.2.1, c.2.2.1, c.2.2.2, text, lo, hi⟩
abbrev noC : Int × Int × Int × Int := (0, 0, 0, 0)
abbrev noT : ByteArray := ⟨#[]⟩
def errT (e : Int) : Tk × Nat × Int := (tkOf 0 noC noT 0 0, 0, e)
def okU (l : List UInt8) : Bool := utf8From ⟨l.toArray⟩ l.length 0
def oneS : List UInt8 → Tk × Nat × Int
  | [] => errT 1
  | c :: l =>
    if shortK (c.toNat : Int) ≠ 0 then (tkOf (shortK (c.toNat : Int)) noC noT 0 0, 1, 0)
    else if c = 46 then (tkOf 1 (cls fun _ => true) noT 0 0, 1, 0)
    else if c = 60 then (if 62 ∈ l then (match bytesS (ahead 62 l) with | none => errT 2 | some q => (tkOf 1 (cls (Qn (decide ((ahead 62 l).head? = some 94)) q)) noT 0 0, (ahead 62 l).length + 2, 0)) else errT 2)
    else if c = 34 then (if 34 ∈ l then (if ahead 34 l = [] then errT 3 else if okU (ahead 34 l) = true then (tkOf 2 noC ⟨(ahead 34 l).toArray⟩ 0 0, (ahead 34 l).length + 2, 0) else errT 3) else errT 3)
    else if c = 123 then (if 125 ∈ l then (if (repSpec (ahead 125 l)).2.2 = 0 then (tkOf 7 noC noT (repSpec (ahead 125 l)).1 (repSpec (ahead 125 l)).2.1, (ahead 125 l).length + 2, 0) else errT (repSpec (ahead 125 l)).2.2) else errT 4)
    else errT 1
def tup (t : Tk) (at_ n why : Int) : Int × Int × Int × Int × Int × Int × ByteArray × Int × Int × Int × Int := (t.kind, at_, t.c0, t.c1, t.c2, t.c3, t.text, t.lo, t.hi, n, why)
theorem bs_inj {a b : ByteArray} (h : bs a = bs b) : a = b := by
  rw [← Lib.mk_data a, ← Lib.mk_data b]
  exact congrArg (fun l : List UInt8 => (⟨l.toArray⟩ : ByteArray)) h
theorem bs_mk (l : List UInt8) : bs ⟨l.toArray⟩ = l := rfl
theorem u8_lit (b : UInt8) (n : Nat) (hn : n < 256) : ((b.toNat : Int) = (n : Int)) ↔ b = UInt8.ofNat n := by
  constructor
  · intro h
    apply UInt8.toNat_inj.1
    rw [UInt8.toNat_ofNat']
    omega
  · intro h
    rw [h, UInt8.toNat_ofNat']
    omega
theorem oneS_len (l : List UInt8) (h : (oneS l).2.2 = 0) : 1 ≤ (oneS l).2.1 ∧ (oneS l).2.1 ≤ l.length := by
  have lenA : ∀ (c x : UInt8) (t : List UInt8), c ∈ t → (ahead c t).length + 2 ≤ (x :: t).length := by
    intro c x t hm
    rcases from1_cases c t with ⟨h1, _⟩ | ⟨_, r, _, h3⟩
    · exact absurd hm h1
    · have := congrArg List.length h3
      rw [List.length_append, List.length_cons] at this
      rw [List.length_cons]; omega
  match l, h with
  | [], h => exact absurd h (by decide)
  | c :: l, h =>
    simp only [oneS] at h ⊢
    split at h
    · rename_i q; rw [if_pos q]; simp
    rename_i q; rw [if_neg q]
    split at h
    · rename_i q; rw [if_pos q]; simp
    rename_i q; rw [if_neg q]
    split at h
    · rename_i q; rw [if_pos q]
      split at h
      · rename_i q; rw [if_pos q]
        split at h
        · exact absurd h (by simp [errT])
        · rename_i q2 e
          have := lenA 62 c l q
          simp only
          omega
      · exact absurd h (by simp [errT])
    rename_i q; rw [if_neg q]
    split at h
    · rename_i q; rw [if_pos q]
      split at h
      · rename_i q; rw [if_pos q]
        split at h
        · exact absurd h (by simp [errT])
        · rename_i q2; rw [if_neg q2]
          split at h
          · rename_i q3; rw [if_pos q3]
            have := lenA 34 c l q
            simp only
            omega
          · exact absurd h (by simp [errT])
      · exact absurd h (by simp [errT])
    rename_i q; rw [if_neg q]
    split at h
    · rename_i q; rw [if_pos q]
      split at h
      · rename_i q; rw [if_pos q]
        split at h
        · rename_i q3; rw [if_pos q3]
          have := lenA 125 c l q
          simp only
          omega
        · rename_i q3; exact absurd h q3
      · exact absurd h (by simp [errT])
    rename_i q; rw [if_neg q]
    exact absurd h (by simp [errT])
theorem bs_tail (s : ByteArray) (i : Nat) : bs (s.extract i s.size) = (bs s).drop i := by
  rw [bs_ext, List.take_of_length_le]
  rw [List.length_drop, bs_len]
  exact Nat.le_refl _
theorem idx_f (x : ByteArray) (c : UInt8) (n : Int) (hc : n = (c.toNat : Int)) : strings_IndexByte.f x n = some (if c ∈ bs x then ((ahead c (bs x)).length : Int) else -1) := by
  subst hc
  unfold strings_IndexByte.f
  have e : ((c.toNat : Int)).toNat.toUInt8 = c := by simp
  rw [e]
  exact congrArg some (indexByte_eq c (bs x))
theorem one_prog (t : ByteArray) (ht : t.size ≤ 3000) (c : UInt8) (l : List UInt8) (hl : bs t = c :: l) :
    ∃ n : Int, Ev (fun k => lex_one.f k t) (tup (oneS (c :: l)).1 0 n (oneS (c :: l)).2.2) ∧ ((oneS (c :: l)).2.2 = 0 → n = ((oneS (c :: l)).2.1 : Int)) := by
  have hsz : t.size = l.length + 1 := by rw [← bs_len, hl]; rfl
  have hb0 : bt t 0 = (c.toNat : Int) := by
    have h1 : bt t 0 = ((t.get! 0).toNat : Int) := bt_nat t 0
    have h2 := bs_get t 0 (by omega)
    rw [hl] at h2
    rw [h1, ← Option.some.inj h2]
  have hx : bs (t.extract 1 t.size) = l := by rw [bs_tail, hl]; rfl
  have hcont : ∀ d : UInt8, bs (t.extract 1 (1 + ((ahead d l).length : Int)).toNat) = ahead d l := by
    intro d
    rw [bs_ext, hl]
    have e : (1 + ((ahead d l).length : Int)).toNat - 1 = (ahead d l).length := by omega
    rw [e]
    exact take_ahead d l
  have hsmall : ∀ d : UInt8, (t.extract 1 (1 + ((ahead d l).length : Int)).toNat).size ≤ 3000 := by
    intro d
    rw [ByteArray.size_extract]; omega
  unfold lex_one.f
  simp only [if_pos (show 0 < t.size ∧ t.size ≤ 281474976710656 by omega), hb0]
  unfold oneS
  by_cases h1 : shortK (c.toNat : Int) ≠ 0
  · simp only [if_pos h1]
    exact ⟨1, Ev.now _, fun _ => rfl⟩
  simp only [if_neg h1]
  have lit : ∀ n : Nat, n < 256 → (((c.toNat : Int) = (n : Int)) ↔ c = UInt8.ofNat n) := fun n hn => u8_lit c n hn
  by_cases h2 : c = 46
  · have h2' : (c.toNat : Int) = 46 := (lit 46 (by decide)).2 h2
    simp only [if_pos h2', if_pos h2]
    have hn := not_cls (fun _ => false)
    rw [cls_none] at hn
    simp only [hn, Option.bind_some, Bool.not_false]
    exact ⟨1, Ev.now _, fun _ => rfl⟩
  have h2' : ¬ (c.toNat : Int) = 46 := fun q => h2 ((lit 46 (by decide)).1 q)
  simp only [if_neg h2', if_neg h2]
  by_cases h3 : c = 60
  · have h3' : (c.toNat : Int) = 60 := (lit 60 (by decide)).2 h3
    simp only [if_pos h3', if_pos h3]
    unfold oneLong
    simp only [idx_f _ 62 62 rfl, hx, Option.bind_some]
    by_cases hm : 62 ∈ l
    · have hge : ¬ ((ahead 62 l).length : Int) < 0 := by omega
      simp only [if_pos hm, if_neg hge]
      have hb := lexbytes_eq (t.extract 1 (1 + ((ahead 62 l).length : Int)).toNat) (hsmall 62)
      rw [hcont 62] at hb
      refine ⟨((ahead 62 l).length : Int) + 2, Ev.bind hb ?_, ?_⟩
      · cases bytesS (ahead 62 l) <;> exact Ev.now _
      · cases bytesS (ahead 62 l) with
        | none => intro q; exact absurd q (by simp [errT])
        | some q => intro _; simp
    · simp only [if_neg hm, if_pos (show (-1 : Int) < 0 by decide)]
      exact ⟨0, Ev.now _, fun q => absurd q (by simp [errT])⟩
  have h3' : ¬ (c.toNat : Int) = 60 := fun q => h3 ((lit 60 (by decide)).1 q)
  simp only [if_neg h3', if_neg h3]
  by_cases h4 : c = 34
  · have h4' : (c.toNat : Int) = 34 := (lit 34 (by decide)).2 h4
    simp only [if_pos h4', if_pos h4]
    unfold oneLong
    simp only [idx_f _ 34 34 rfl, hx, Option.bind_some]
    by_cases hm : 34 ∈ l
    · have hge : ¬ ((ahead 34 l).length : Int) < 0 := by omega
      simp only [if_pos hm, if_neg hge]
      have hc := hcont 34
      have hbs : t.extract 1 (1 + ((ahead 34 l).length : Int)).toNat = ⟨(ahead 34 l).toArray⟩ := bs_inj (by rw [hc, bs_mk])
      rw [hbs]
      unfold lex_text.f lex_Utf8.f
      have he : ((⟨(ahead 34 l).toArray⟩ : ByteArray).toList = ([] : List UInt8)) ↔ ahead 34 l = [] := toList_nil _
      refine ⟨((ahead 34 l).length : Int) + 2, ?_, ?_⟩
      · by_cases h5 : ahead 34 l = []
        · simp only [if_pos (he.2 h5), if_pos h5]
          exact Ev.now _
        · simp only [if_neg (fun q => h5 (he.1 q)), if_neg h5, Option.bind_some]
          have e : utf8From ⟨(ahead 34 l).toArray⟩ (⟨(ahead 34 l).toArray⟩ : ByteArray).size 0 = okU (ahead 34 l) := rfl
          rw [e]
          cases okU (ahead 34 l) <;> exact Ev.now _
      · by_cases h5 : ahead 34 l = []
        · simp only [if_pos h5]
          intro q; exact absurd q (by simp [errT])
        · simp only [if_neg h5]
          cases okU (ahead 34 l) with
          | false => intro q; exact absurd q (by simp [errT])
          | true => intro _; simp
    · simp only [if_neg hm, if_pos (show (-1 : Int) < 0 by decide)]
      exact ⟨0, Ev.now _, fun q => absurd q (by simp [errT])⟩
  have h4' : ¬ (c.toNat : Int) = 34 := fun q => h4 ((lit 34 (by decide)).1 q)
  simp only [if_neg h4', if_neg h4]
  by_cases h5 : c = 123
  · have h5' : (c.toNat : Int) = 123 := (lit 123 (by decide)).2 h5
    simp only [if_pos h5', if_pos h5]
    unfold oneLong
    simp only [idx_f _ 125 125 rfl, hx, Option.bind_some]
    by_cases hm : 125 ∈ l
    · have hge : ¬ ((ahead 125 l).length : Int) < 0 := by omega
      simp only [if_pos hm, if_neg hge]
      have hb := repeat_eq (t.extract 1 (1 + ((ahead 125 l).length : Int)).toNat) (by have := hsmall 125; omega)
      rw [hcont 125] at hb
      refine ⟨((ahead 125 l).length : Int) + 2, Ev.bind hb ?_, ?_⟩
      · unfold repTok
        by_cases h0 : (repSpec (ahead 125 l)).2.2 = 0
        · simp only [if_pos h0]; exact Ev.now _
        · simp only [if_neg h0]; exact Ev.now _
      · by_cases h0 : (repSpec (ahead 125 l)).2.2 = 0
        · simp only [if_pos h0]; intro _; simp
        · simp only [if_neg h0]; intro q; exact absurd q h0
    · simp only [if_neg hm, if_pos (show (-1 : Int) < 0 by decide)]
      exact ⟨0, Ev.now _, fun q => absurd q (by simp [errT])⟩
  have h5' : ¬ (c.toNat : Int) = 123 := fun q => h5 ((lit 123 (by decide)).1 q)
  simp only [if_neg h5', if_neg h5]
  exact ⟨0, Ev.now _, fun q => absurd q (by simp [errT])⟩
end Go.Proofs.YtepnbnpgifpfbaaDoor.G
namespace Go.Proofs.YtepnbnpgifpfbaaDoor.G
open Go.RowKit Go.Proofs.YtepnbnpgifpfbaaDoorW.PrintWords Go.Proofs.YtepnbnpgifpfbaaDoorW.PrintMore
def tokAt (t : Tk) (i : Nat) : S35 := ⟨t.kind, (i : Int), ⟨t.c0, t.c1, t.c2, t.c3⟩, t.text, t.lo, t.hi⟩
def endAt (i : Nat) : S35 := ⟨10, (i : Int), ⟨0, 0, 0, 0⟩, ⟨#[]⟩, 0, 0⟩
def readS : Nat → List UInt8 → Nat → List S35 → List S35 × Int × Int
  | 0, _, _, out => (out, 0, 0)
  | _ + 1, [], i, out => (out ++ [endAt i], 0, 0)
  | f + 1, c :: l, i, out =>
    if c = 32 then readS f l (i + 1) out
    else if (oneS (c :: l)).2.2 = 0 then readS f ((c :: l).drop (oneS (c :: l)).2.1) (i + (oneS (c :: l)).2.1) (out ++ [tokAt (oneS (c :: l)).1 i])
    else ([], (oneS (c :: l)).2.2, (i : Int))
theorem read_prog (s : ByteArray) (hs : s.size ≤ 3000) : ∀ (f i : Nat) (out : List S35), s.size - i < f → i ≤ s.size → out.length ≤ i → Ev (fun k => lex_Read.l0 k s out (i : Int)) (readS f ((bs s).drop i) i out)
  | 0, i, out, h, _, _ => absurd h (Nat.not_lt_zero _)
  | f + 1, i, out, h, hi, ho => by
    have hout : out.length < 1759218604441 := by omega
    by_cases hlt : i < s.size
    · have hd := drop_get s i hlt
      have hbt : bt s (i : Int) = ((s.get! i).toNat : Int) := bt_nat s i
      have hw := Aside0.mk (show wrap64 ((i : Int) + 1) = ((i + 1 : Nat) : Int) from w64 (by omega) (by omega))
      have p1 : (i : Int) < (s.size : Int) := by omega
      have p2 : (0 : Int) ≤ (i : Int) := by omega
      have p3 : (i : Int) ≤ (s.size : Int) := by omega
      rw [hd]
      simp only [readS]
      by_cases h32 : s.get! i = 32
      · rw [if_pos h32]
        have e : ((s.get! i).toNat : Int) = 32 := by rw [h32]; rfl
        refine Ev.step (fun k => ?_) (read_prog s hs f (i + 1) out (by omega) (by omega) (by omega))
        rw [lex_Read.l0, if_pos p1, if_pos p2, hbt, if_pos e, hw.out]
      · rw [if_neg h32]
        have e : ¬ ((s.get! i).toNat : Int) = 32 := by
          intro q
          apply h32
          apply UInt8.toNat_inj.1
          show (s.get! i).toNat = 32
          omega
        have hb : bs (s.extract i s.size) = s.get! i :: (bs s).drop (i + 1) := by rw [bs_tail, hd]
        obtain ⟨n, h1, h2⟩ := one_prog (s.extract i s.size) (by rw [ByteArray.size_extract]; omega) _ _ hb
        refine Ev.step (f := fun k => (lex_one.f k (s.extract i s.size)).bind fun bt170 => (if bt170.2.2.2.2.2.2.2.2.2.2 = 0 then (if out.length < 1759218604441 then (lex_Read.l0 k s (out ++ [(⟨bt170.1, (i : Int), (⟨bt170.2.2.1, bt170.2.2.2.1, bt170.2.2.2.2.1, bt170.2.2.2.2.2.1⟩ : S33), bt170.2.2.2.2.2.2.1, bt170.2.2.2.2.2.2.2.1, bt170.2.2.2.2.2.2.2.2.1⟩ : S35)]) (wrap64 ((i : Int) + bt170.2.2.2.2.2.2.2.2.2.1))) else (none)) else (some (([] : List (S35)), bt170.2.2.2.2.2.2.2.2.2.2, (i : Int))))) (fun k => by rw [lex_Read.l0, if_pos p1, if_pos p2, hbt, if_neg e, if_pos p3, Int.toNat_natCast]) ?_
        refine Ev.bind h1 ?_
        rw [← hd] at h2 ⊢
        by_cases hwhy : (oneS ((bs s).drop i)).2.2 = 0
        · have hl := oneS_len _ hwhy
          rw [List.length_drop, bs_len] at hl
          have hn := h2 hwhy
          have hw2 := Aside0.mk (show wrap64 ((i : Int) + n) = ((i + (oneS ((bs s).drop i)).2.1 : Nat) : Int) by rw [hn, w64 (by omega) (by omega)]; omega)
          simp only [tup, hwhy, if_true, if_pos hout, hw2.out, List.drop_drop]
          exact read_prog s hs f (i + (oneS ((bs s).drop i)).2.1) _ (by omega) (by omega) (by rw [List.length_append, List.length_singleton]; omega)
        · have hwf := eq_false hwhy
          simp only [tup, hwf, if_false]
          exact Ev.now _
    · have e : i = s.size := by omega
      rw [drop_end s i (by omega)]
      refine Ev.step (f := fun _ => some (out ++ [endAt i], 0, 0)) (fun k => ?_) (Ev.now _)
      rw [lex_Read.l0, if_neg (by omega), if_pos hout, e]
      rfl
def readA (l : List UInt8) : List S35 × Int × Int := readS (l.length + 1) l 0 []
theorem read_eq (s : ByteArray) (hs : s.size ≤ 3000) : Ev (fun k => lex_Read.f k s) (readA (bs s)) := by
  have h := read_prog s hs ((bs s).length + 1) 0 [] (by rw [bs_len]; omega) (Nat.zero_le _) (Nat.le_refl _)
  exact h
theorem readS_len : ∀ (f : Nat) (l : List UInt8) (i : Nat) (out : List S35), (readS f l i out).1.length ≤ out.length + l.length + 1
  | 0, l, i, out => by simp only [readS]; omega
  | f + 1, [], i, out => by simp [readS]
  | f + 1, c :: l, i, out => by
    simp only [readS]
    split
    · have := readS_len f l (i + 1) out
      rw [List.length_cons]; omega
    · split
      · rename_i h
        have h1 := oneS_len _ h
        have := readS_len f ((c :: l).drop (oneS (c :: l)).2.1) (i + (oneS (c :: l)).2.1) (out ++ [tokAt (oneS (c :: l)).1 i])
        rw [List.length_append, List.length_singleton, List.length_drop] at this
        omega
      · simp
theorem readA_len (l : List UInt8) : (readA l).1.length ≤ l.length + 1 := by
  have := readS_len (l.length + 1) l 0 []
  unfold readA
  simpa using this
end Go.Proofs.YtepnbnpgifpfbaaDoor.G
